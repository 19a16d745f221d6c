/- Safe and private messages, as the reference opens them, and the law on what is opened. -/
import Derived.Test.YtghnigbihllnmaaGreatFn65
import Derived.Test.YtghnigbihllnmaaGreatFn20
set_option linter.unusedVariables false
set_option linter.unusedSimpArgs false
namespace Go.Proofs.YtghnigbihllnmaaGreat.Fn
open Go Hl Sp Ty
set_option maxRecDepth 100000
set_option maxHeartbeats 8000000 in
theorem ropen11s_pn (b : List UInt8) (k : Int) (hn : b.length ≤ 100000) : PN Tryz.prog 112 [.lst 1 (b.map byteA), .raw (.int .i64 7), .raw (.int .i64 6), .raw (.int .u64 k)] (opS true b k) := by
  refine PN.post ?_
  have hR0 := rhdRead_pure b (by omega)
  by_cases hsf : ∃ lt t x, safIs b lt t x
  · obtain ⟨lt, t, x, hi⟩ := hsf
    have hp : PtS b (.tup [.lst 1 (t.map byteA), .lst 1 (x.map byteA), .raw (.bool lt), .raw (.int .i64 0)]) := .inl ⟨lt, t, x, hi, rfl⟩
    rw [hi.hdr] at hR0
    have hxl := safChk_ok (safOk_chk hi.1)
    have hO := rboxOpen_pure x 6 k (by omega)
    cases ho : openR x 6 k with
    | none =>
      rw [ho, openA] at hO
      have hfin : opS true b k (.tup [conZ, .raw (.int .i64 41)]) := .inl ⟨lt, t, x, hi, .inl ⟨rfl, .inr ⟨fun body y ti ad tm h _ _ => (by rw [ho] at h; cases h), rfl⟩⟩⟩
      refine AC.of_body (M := []) Tryz.func112 rfl (by kernel_rfl) (Nat.le_of_ble_eq_true rfl) ?_; simp only [Tryz.results112, Tryz.ntmps112]
      simp (dsimp := false) only [go_sem, ↓reduceIte, Nat.reduceEqDiff, Nat.reduceLT, Nat.reduceAdd, Nat.reduceSub, Nat.reduceMul, Nat.reduceLeDiff, reduceCtorEq, Int.reduceNeg, Int.reduceToNat, Int.reduceLT, Int.reduceLE, Int.reduceGE, Int.reduceGT, Int.reduceEq]
      intro k1 hk1
      refine ACs.pn (rParts_pn b (by omega)) ?_
      intro d hd
      have hd := hd.unique hp
      subst hd
      simp (dsimp := false) only [go_sem, ↓reduceIte, Nat.reduceEqDiff, Nat.reduceLT, Nat.reduceAdd, Nat.reduceSub, Nat.reduceMul, Nat.reduceLeDiff, reduceCtorEq, Int.reduceNeg, Int.reduceToNat, Int.reduceLT, Int.reduceLE, Int.reduceGE, Int.reduceGT, Int.reduceEq]
      refine ACs.pure hR0 ?_
      simp (dsimp := false) only [go_sem, ↓reduceIte, Nat.reduceEqDiff, Nat.reduceLT, Nat.reduceAdd, Nat.reduceSub, Nat.reduceMul, Nat.reduceLeDiff, reduceCtorEq, Int.reduceNeg, Int.reduceToNat, Int.reduceLT, Int.reduceLE, Int.reduceGE, Int.reduceGT, Int.reduceEq]
      refine ACs.pure hO ?_
      simp (dsimp := false) only [go_sem, ↓reduceIte, Nat.reduceEqDiff, Nat.reduceLT, Nat.reduceAdd, Nat.reduceSub, Nat.reduceMul, Nat.reduceLeDiff, reduceCtorEq, Int.reduceNeg, Int.reduceToNat, Int.reduceLT, Int.reduceLE, Int.reduceGE, Int.reduceGT, Int.reduceEq]
      exact ⟨_, _, conZ_weak, hfin⟩
    | some body =>
      have hbl := openR_len ho
      rw [ho, openA] at hO
      have hcd : ∀ d, conDec body lt d → body = t → (∃ y ti ad tm, d = .tup [conA lt y ti ad tm, .raw (.int .i64 0)] ∧ opS true b k d) ∨ (d = .tup [conZ, .raw (.int .i64 100)] ∧ opS true b k (.tup [conZ, .raw (.int .i64 41)])) := by
        intro d hd hq
        rcases hd with ⟨y, ti, ad, tm, h1, rfl⟩ | ⟨h1, rfl⟩
        · exact .inl ⟨y, ti, ad, tm, rfl, .inl ⟨lt, t, x, hi, .inl ⟨rfl, .inl ⟨body, y, ti, ad, tm, ho, fun t' e => (by injection e with e; rw [hq, e]), h1, rfl⟩⟩⟩⟩
        · exact .inr ⟨rfl, .inl ⟨lt, t, x, hi, .inl ⟨rfl, .inr ⟨fun body' y ti ad tm h _ h2 => (by rw [ho] at h; injection h with h; subst h; exact h1 _ _ _ _ h2), rfl⟩⟩⟩⟩
      by_cases hq : body = t
      · subst hq
        have hqq : decide (body = body) = true := decide_eq_true rfl
        refine AC.of_body (M := []) Tryz.func112 rfl (by kernel_rfl) (Nat.le_of_ble_eq_true rfl) ?_; simp only [Tryz.results112, Tryz.ntmps112]
        simp (dsimp := false) only [go_sem, ↓reduceIte, Nat.reduceEqDiff, Nat.reduceLT, Nat.reduceAdd, Nat.reduceSub, Nat.reduceMul, Nat.reduceLeDiff, reduceCtorEq, Int.reduceNeg, Int.reduceToNat, Int.reduceLT, Int.reduceLE, Int.reduceGE, Int.reduceGT, Int.reduceEq]
        intro k1 hk1
        refine ACs.pn (rParts_pn b (by omega)) ?_
        intro d hd
        have hd := hd.unique hp
        subst hd
        simp (dsimp := false) only [go_sem, ↓reduceIte, Nat.reduceEqDiff, Nat.reduceLT, Nat.reduceAdd, Nat.reduceSub, Nat.reduceMul, Nat.reduceLeDiff, reduceCtorEq, Int.reduceNeg, Int.reduceToNat, Int.reduceLT, Int.reduceLE, Int.reduceGE, Int.reduceGT, Int.reduceEq]
        refine ACs.pure hR0 ?_
        simp (dsimp := false) only [go_sem, ↓reduceIte, Nat.reduceEqDiff, Nat.reduceLT, Nat.reduceAdd, Nat.reduceSub, Nat.reduceMul, Nat.reduceLeDiff, reduceCtorEq, Int.reduceNeg, Int.reduceToNat, Int.reduceLT, Int.reduceLE, Int.reduceGE, Int.reduceGT, Int.reduceEq]
        refine ACs.pure hO ?_
        simp (dsimp := false) only [go_sem, ↓reduceIte, Nat.reduceEqDiff, Nat.reduceLT, Nat.reduceAdd, Nat.reduceSub, Nat.reduceMul, Nat.reduceLeDiff, reduceCtorEq, Int.reduceNeg, Int.reduceToNat, Int.reduceLT, Int.reduceLE, Int.reduceGE, Int.reduceGT, Int.reduceEq, bytes_eq, hqq]
        refine ACs.pn (rconDecode_pn body lt (by omega)) ?_
        intro d hd
        rcases hcd d hd rfl with ⟨y, ti, ad, tm, rfl, hfin⟩ | ⟨rfl, hfin⟩
        · unfold conA at hfin ⊢
          simp (dsimp := false) only [go_sem, ↓reduceIte, Nat.reduceEqDiff, Nat.reduceLT, Nat.reduceAdd, Nat.reduceSub, Nat.reduceMul, Nat.reduceLeDiff, reduceCtorEq, Int.reduceNeg, Int.reduceToNat, Int.reduceLT, Int.reduceLE, Int.reduceGE, Int.reduceGT, Int.reduceEq]
          intro k2 hk2
          have q := none_ne hk2
          have a1 : ∀ (own : Own) o, (own.set k2 o) k1 = own k1 := fun own o => Own.set_ne _ _ (Ne.symm q)
          have a2 : ∀ (own : Own) o, (own.set k1 o) k2 = own k2 := fun own o => Own.set_ne _ _ q
          simp (dsimp := false) only [go_sem, ↓reduceIte, Nat.reduceEqDiff, Nat.reduceLT, Nat.reduceAdd, Nat.reduceSub, Nat.reduceMul, Nat.reduceLeDiff, reduceCtorEq, Int.reduceNeg, Int.reduceToNat, Int.reduceLT, Int.reduceLE, Int.reduceGE, Int.reduceGT, Int.reduceEq, a1, a2]
          exact ⟨_, _, Weak1.refl _ _, hfin⟩
        · unfold conZ
          simp (dsimp := false) only [go_sem, ↓reduceIte, Nat.reduceEqDiff, Nat.reduceLT, Nat.reduceAdd, Nat.reduceSub, Nat.reduceMul, Nat.reduceLeDiff, reduceCtorEq, Int.reduceNeg, Int.reduceToNat, Int.reduceLT, Int.reduceLE, Int.reduceGE, Int.reduceGT, Int.reduceEq]
          intro k2 hk2
          have q := none_ne hk2
          have a1 : ∀ (own : Own) o, (own.set k2 o) k1 = own k1 := fun own o => Own.set_ne _ _ (Ne.symm q)
          have a2 : ∀ (own : Own) o, (own.set k1 o) k2 = own k2 := fun own o => Own.set_ne _ _ q
          simp (dsimp := false) only [go_sem, ↓reduceIte, Nat.reduceEqDiff, Nat.reduceLT, Nat.reduceAdd, Nat.reduceSub, Nat.reduceMul, Nat.reduceLeDiff, reduceCtorEq, Int.reduceNeg, Int.reduceToNat, Int.reduceLT, Int.reduceLE, Int.reduceGE, Int.reduceGT, Int.reduceEq, a1, a2]
          exact ⟨_, _, conZ_weak, hfin⟩
      · have hfin : opS true b k (.tup [conZ, .raw (.int .i64 41)]) := .inl ⟨lt, t, x, hi, .inl ⟨rfl, .inr ⟨fun body' y ti ad tm h h2 _ => (by rw [ho] at h; injection h with h; subst h; exact hq (h2 t rfl)), rfl⟩⟩⟩
        refine AC.of_body (M := []) Tryz.func112 rfl (by kernel_rfl) (Nat.le_of_ble_eq_true rfl) ?_; simp only [Tryz.results112, Tryz.ntmps112]
        simp (dsimp := false) only [go_sem, ↓reduceIte, Nat.reduceEqDiff, Nat.reduceLT, Nat.reduceAdd, Nat.reduceSub, Nat.reduceMul, Nat.reduceLeDiff, reduceCtorEq, Int.reduceNeg, Int.reduceToNat, Int.reduceLT, Int.reduceLE, Int.reduceGE, Int.reduceGT, Int.reduceEq]
        intro k1 hk1
        refine ACs.pn (rParts_pn b (by omega)) ?_
        intro d hd
        have hd := hd.unique hp
        subst hd
        simp (dsimp := false) only [go_sem, ↓reduceIte, Nat.reduceEqDiff, Nat.reduceLT, Nat.reduceAdd, Nat.reduceSub, Nat.reduceMul, Nat.reduceLeDiff, reduceCtorEq, Int.reduceNeg, Int.reduceToNat, Int.reduceLT, Int.reduceLE, Int.reduceGE, Int.reduceGT, Int.reduceEq]
        refine ACs.pure hR0 ?_
        simp (dsimp := false) only [go_sem, ↓reduceIte, Nat.reduceEqDiff, Nat.reduceLT, Nat.reduceAdd, Nat.reduceSub, Nat.reduceMul, Nat.reduceLeDiff, reduceCtorEq, Int.reduceNeg, Int.reduceToNat, Int.reduceLT, Int.reduceLE, Int.reduceGE, Int.reduceGT, Int.reduceEq]
        refine ACs.pure hO ?_
        simp (dsimp := false) only [go_sem, ↓reduceIte, Nat.reduceEqDiff, Nat.reduceLT, Nat.reduceAdd, Nat.reduceSub, Nat.reduceMul, Nat.reduceLeDiff, reduceCtorEq, Int.reduceNeg, Int.reduceToNat, Int.reduceLT, Int.reduceLE, Int.reduceGE, Int.reduceGT, Int.reduceEq, bytes_eq, hq]
        exact ⟨_, _, conZ_weak, hfin⟩
  by_cases hpv : ∃ lt x, prvIs b lt x
  · obtain ⟨lt, x, hi⟩ := hpv
    have hp : PtS b (.tup [.lst 1 [], .lst 1 (x.map byteA), .raw (.bool lt), .raw (.int .i64 0)]) := .inr (.inl ⟨lt, x, hi, rfl⟩)
    rw [hi.hdr] at hR0
    have hxl := prvChk_ok (prvOk_chk hi.1)
    have hfin : opS true b k (.tup [conZ, .raw (.int .i64 40)]) := .inr (.inl ⟨lt, x, hi, .inr ⟨rfl, rfl⟩⟩)
    refine AC.of_body (M := []) Tryz.func112 rfl (by kernel_rfl) (Nat.le_of_ble_eq_true rfl) ?_; simp only [Tryz.results112, Tryz.ntmps112]
    simp (dsimp := false) only [go_sem, ↓reduceIte, Nat.reduceEqDiff, Nat.reduceLT, Nat.reduceAdd, Nat.reduceSub, Nat.reduceMul, Nat.reduceLeDiff, reduceCtorEq, Int.reduceNeg, Int.reduceToNat, Int.reduceLT, Int.reduceLE, Int.reduceGE, Int.reduceGT, Int.reduceEq]
    intro k1 hk1
    refine ACs.pn (rParts_pn b (by omega)) ?_
    intro d hd
    have hd := hd.unique hp
    subst hd
    simp (dsimp := false) only [go_sem, ↓reduceIte, Nat.reduceEqDiff, Nat.reduceLT, Nat.reduceAdd, Nat.reduceSub, Nat.reduceMul, Nat.reduceLeDiff, reduceCtorEq, Int.reduceNeg, Int.reduceToNat, Int.reduceLT, Int.reduceLE, Int.reduceGE, Int.reduceGT, Int.reduceEq]
    refine ACs.pure hR0 ?_
    simp (dsimp := false) only [go_sem, ↓reduceIte, Nat.reduceEqDiff, Nat.reduceLT, Nat.reduceAdd, Nat.reduceSub, Nat.reduceMul, Nat.reduceLeDiff, reduceCtorEq, Int.reduceNeg, Int.reduceToNat, Int.reduceLT, Int.reduceLE, Int.reduceGE, Int.reduceGT, Int.reduceEq]
    exact ⟨_, _, conZ_weak, hfin⟩
  have hns : ∀ lt t x, ¬ safIs b lt t x := fun lt t x h => hsf ⟨lt, t, x, h⟩
  have hnp : ∀ lt x, ¬ prvIs b lt x := fun lt x h => hpv ⟨lt, x, h⟩
  have hp : PtS b (.tup [.lst 1 [], .lst 1 [], .raw (.bool false), .raw (.int .i64 (ptErr b))]) := .inr (.inr ⟨hns, hnp, rfl⟩)
  have hne := ptErr_ne b
  have hfin : opS true b k (.tup [conZ, .raw (.int .i64 (ptErr b))]) := .inr (.inr ⟨hns, hnp, rfl⟩)
  obtain ⟨e, hE⟩ : ∃ e, ptErr b = e := ⟨_, rfl⟩
  rw [hE] at hp hne hfin
  refine AC.of_body (M := []) Tryz.func112 rfl (by kernel_rfl) (Nat.le_of_ble_eq_true rfl) ?_; simp only [Tryz.results112, Tryz.ntmps112]
  simp (dsimp := false) only [go_sem, ↓reduceIte, Nat.reduceEqDiff, Nat.reduceLT, Nat.reduceAdd, Nat.reduceSub, Nat.reduceMul, Nat.reduceLeDiff, reduceCtorEq, Int.reduceNeg, Int.reduceToNat, Int.reduceLT, Int.reduceLE, Int.reduceGE, Int.reduceGT, Int.reduceEq]
  intro k1 hk1
  refine ACs.pn (rParts_pn b (by omega)) ?_
  intro d hd
  have hd := hd.unique hp
  subst hd
  simp (dsimp := false) only [go_sem, ↓reduceIte, Nat.reduceEqDiff, Nat.reduceLT, Nat.reduceAdd, Nat.reduceSub, Nat.reduceMul, Nat.reduceLeDiff, reduceCtorEq, Int.reduceNeg, Int.reduceToNat, Int.reduceLT, Int.reduceLE, Int.reduceGE, Int.reduceGT, Int.reduceEq, hne]
  exact ⟨_, _, conZ_weak, hfin⟩
set_option maxHeartbeats 8000000 in
theorem ropen11p_pn (b : List UInt8) (k : Int) (hn : b.length ≤ 100000) : PN Tryz.prog 112 [.lst 1 (b.map byteA), .raw (.int .i64 6), .raw (.int .i64 5), .raw (.int .u64 k)] (opS false b k) := by
  refine PN.post ?_
  have hR0 := rhdRead_pure b (by omega)
  by_cases hsf : ∃ lt t x, safIs b lt t x
  · obtain ⟨lt, t, x, hi⟩ := hsf
    have hp : PtS b (.tup [.lst 1 (t.map byteA), .lst 1 (x.map byteA), .raw (.bool lt), .raw (.int .i64 0)]) := .inl ⟨lt, t, x, hi, rfl⟩
    rw [hi.hdr] at hR0
    have hxl := safChk_ok (safOk_chk hi.1)
    have hfin : opS false b k (.tup [conZ, .raw (.int .i64 40)]) := .inl ⟨lt, t, x, hi, .inr ⟨rfl, rfl⟩⟩
    refine AC.of_body (M := []) Tryz.func112 rfl (by kernel_rfl) (Nat.le_of_ble_eq_true rfl) ?_; simp only [Tryz.results112, Tryz.ntmps112]
    simp (dsimp := false) only [go_sem, ↓reduceIte, Nat.reduceEqDiff, Nat.reduceLT, Nat.reduceAdd, Nat.reduceSub, Nat.reduceMul, Nat.reduceLeDiff, reduceCtorEq, Int.reduceNeg, Int.reduceToNat, Int.reduceLT, Int.reduceLE, Int.reduceGE, Int.reduceGT, Int.reduceEq]
    intro k1 hk1
    refine ACs.pn (rParts_pn b (by omega)) ?_
    intro d hd
    have hd := hd.unique hp
    subst hd
    simp (dsimp := false) only [go_sem, ↓reduceIte, Nat.reduceEqDiff, Nat.reduceLT, Nat.reduceAdd, Nat.reduceSub, Nat.reduceMul, Nat.reduceLeDiff, reduceCtorEq, Int.reduceNeg, Int.reduceToNat, Int.reduceLT, Int.reduceLE, Int.reduceGE, Int.reduceGT, Int.reduceEq]
    refine ACs.pure hR0 ?_
    simp (dsimp := false) only [go_sem, ↓reduceIte, Nat.reduceEqDiff, Nat.reduceLT, Nat.reduceAdd, Nat.reduceSub, Nat.reduceMul, Nat.reduceLeDiff, reduceCtorEq, Int.reduceNeg, Int.reduceToNat, Int.reduceLT, Int.reduceLE, Int.reduceGE, Int.reduceGT, Int.reduceEq]
    exact ⟨_, _, conZ_weak, hfin⟩
  by_cases hpv : ∃ lt x, prvIs b lt x
  · obtain ⟨lt, x, hi⟩ := hpv
    have hp : PtS b (.tup [.lst 1 [], .lst 1 (x.map byteA), .raw (.bool lt), .raw (.int .i64 0)]) := .inr (.inl ⟨lt, x, hi, rfl⟩)
    rw [hi.hdr] at hR0
    have hxl := prvChk_ok (prvOk_chk hi.1)
    have hO := rboxOpen_pure x 5 k (by omega)
    cases ho : openR x 5 k with
    | none =>
      rw [ho, openA] at hO
      have hfin : opS false b k (.tup [conZ, .raw (.int .i64 41)]) := .inr (.inl ⟨lt, x, hi, .inl ⟨rfl, .inr ⟨fun body y ti ad tm h _ _ => (by rw [ho] at h; cases h), rfl⟩⟩⟩)
      refine AC.of_body (M := []) Tryz.func112 rfl (by kernel_rfl) (Nat.le_of_ble_eq_true rfl) ?_; simp only [Tryz.results112, Tryz.ntmps112]
      simp (dsimp := false) only [go_sem, ↓reduceIte, Nat.reduceEqDiff, Nat.reduceLT, Nat.reduceAdd, Nat.reduceSub, Nat.reduceMul, Nat.reduceLeDiff, reduceCtorEq, Int.reduceNeg, Int.reduceToNat, Int.reduceLT, Int.reduceLE, Int.reduceGE, Int.reduceGT, Int.reduceEq]
      intro k1 hk1
      refine ACs.pn (rParts_pn b (by omega)) ?_
      intro d hd
      have hd := hd.unique hp
      subst hd
      simp (dsimp := false) only [go_sem, ↓reduceIte, Nat.reduceEqDiff, Nat.reduceLT, Nat.reduceAdd, Nat.reduceSub, Nat.reduceMul, Nat.reduceLeDiff, reduceCtorEq, Int.reduceNeg, Int.reduceToNat, Int.reduceLT, Int.reduceLE, Int.reduceGE, Int.reduceGT, Int.reduceEq]
      refine ACs.pure hR0 ?_
      simp (dsimp := false) only [go_sem, ↓reduceIte, Nat.reduceEqDiff, Nat.reduceLT, Nat.reduceAdd, Nat.reduceSub, Nat.reduceMul, Nat.reduceLeDiff, reduceCtorEq, Int.reduceNeg, Int.reduceToNat, Int.reduceLT, Int.reduceLE, Int.reduceGE, Int.reduceGT, Int.reduceEq]
      refine ACs.pure hO ?_
      simp (dsimp := false) only [go_sem, ↓reduceIte, Nat.reduceEqDiff, Nat.reduceLT, Nat.reduceAdd, Nat.reduceSub, Nat.reduceMul, Nat.reduceLeDiff, reduceCtorEq, Int.reduceNeg, Int.reduceToNat, Int.reduceLT, Int.reduceLE, Int.reduceGE, Int.reduceGT, Int.reduceEq]
      exact ⟨_, _, conZ_weak, hfin⟩
    | some body =>
      have hbl := openR_len ho
      rw [ho, openA] at hO
      have hcd : ∀ d, conDec body lt d → (∃ y ti ad tm, d = .tup [conA lt y ti ad tm, .raw (.int .i64 0)] ∧ opS false b k d) ∨ (d = .tup [conZ, .raw (.int .i64 100)] ∧ opS false b k (.tup [conZ, .raw (.int .i64 41)])) := by
        intro d hd 
        rcases hd with ⟨y, ti, ad, tm, h1, rfl⟩ | ⟨h1, rfl⟩
        · exact .inl ⟨y, ti, ad, tm, rfl, .inr (.inl ⟨lt, x, hi, .inl ⟨rfl, .inl ⟨body, y, ti, ad, tm, ho, fun t' e => (by cases e), h1, rfl⟩⟩⟩)⟩
        · exact .inr ⟨rfl, .inr (.inl ⟨lt, x, hi, .inl ⟨rfl, .inr ⟨fun body' y ti ad tm h _ h2 => (by rw [ho] at h; injection h with h; subst h; exact h1 _ _ _ _ h2), rfl⟩⟩⟩)⟩
      refine AC.of_body (M := []) Tryz.func112 rfl (by kernel_rfl) (Nat.le_of_ble_eq_true rfl) ?_; simp only [Tryz.results112, Tryz.ntmps112]
      simp (dsimp := false) only [go_sem, ↓reduceIte, Nat.reduceEqDiff, Nat.reduceLT, Nat.reduceAdd, Nat.reduceSub, Nat.reduceMul, Nat.reduceLeDiff, reduceCtorEq, Int.reduceNeg, Int.reduceToNat, Int.reduceLT, Int.reduceLE, Int.reduceGE, Int.reduceGT, Int.reduceEq]
      intro k1 hk1
      refine ACs.pn (rParts_pn b (by omega)) ?_
      intro d hd
      have hd := hd.unique hp
      subst hd
      simp (dsimp := false) only [go_sem, ↓reduceIte, Nat.reduceEqDiff, Nat.reduceLT, Nat.reduceAdd, Nat.reduceSub, Nat.reduceMul, Nat.reduceLeDiff, reduceCtorEq, Int.reduceNeg, Int.reduceToNat, Int.reduceLT, Int.reduceLE, Int.reduceGE, Int.reduceGT, Int.reduceEq]
      refine ACs.pure hR0 ?_
      simp (dsimp := false) only [go_sem, ↓reduceIte, Nat.reduceEqDiff, Nat.reduceLT, Nat.reduceAdd, Nat.reduceSub, Nat.reduceMul, Nat.reduceLeDiff, reduceCtorEq, Int.reduceNeg, Int.reduceToNat, Int.reduceLT, Int.reduceLE, Int.reduceGE, Int.reduceGT, Int.reduceEq]
      refine ACs.pure hO ?_
      simp (dsimp := false) only [go_sem, ↓reduceIte, Nat.reduceEqDiff, Nat.reduceLT, Nat.reduceAdd, Nat.reduceSub, Nat.reduceMul, Nat.reduceLeDiff, reduceCtorEq, Int.reduceNeg, Int.reduceToNat, Int.reduceLT, Int.reduceLE, Int.reduceGE, Int.reduceGT, Int.reduceEq]
      refine ACs.pn (rconDecode_pn body lt (by omega)) ?_
      intro d hd
      rcases hcd d hd  with ⟨y, ti, ad, tm, rfl, hfin⟩ | ⟨rfl, hfin⟩
      · unfold conA at hfin ⊢
        simp (dsimp := false) only [go_sem, ↓reduceIte, Nat.reduceEqDiff, Nat.reduceLT, Nat.reduceAdd, Nat.reduceSub, Nat.reduceMul, Nat.reduceLeDiff, reduceCtorEq, Int.reduceNeg, Int.reduceToNat, Int.reduceLT, Int.reduceLE, Int.reduceGE, Int.reduceGT, Int.reduceEq]
        intro k2 hk2
        have q := none_ne hk2
        have a1 : ∀ (own : Own) o, (own.set k2 o) k1 = own k1 := fun own o => Own.set_ne _ _ (Ne.symm q)
        have a2 : ∀ (own : Own) o, (own.set k1 o) k2 = own k2 := fun own o => Own.set_ne _ _ q
        simp (dsimp := false) only [go_sem, ↓reduceIte, Nat.reduceEqDiff, Nat.reduceLT, Nat.reduceAdd, Nat.reduceSub, Nat.reduceMul, Nat.reduceLeDiff, reduceCtorEq, Int.reduceNeg, Int.reduceToNat, Int.reduceLT, Int.reduceLE, Int.reduceGE, Int.reduceGT, Int.reduceEq, a1, a2]
        exact ⟨_, _, Weak1.refl _ _, hfin⟩
      · unfold conZ
        simp (dsimp := false) only [go_sem, ↓reduceIte, Nat.reduceEqDiff, Nat.reduceLT, Nat.reduceAdd, Nat.reduceSub, Nat.reduceMul, Nat.reduceLeDiff, reduceCtorEq, Int.reduceNeg, Int.reduceToNat, Int.reduceLT, Int.reduceLE, Int.reduceGE, Int.reduceGT, Int.reduceEq]
        intro k2 hk2
        have q := none_ne hk2
        have a1 : ∀ (own : Own) o, (own.set k2 o) k1 = own k1 := fun own o => Own.set_ne _ _ (Ne.symm q)
        have a2 : ∀ (own : Own) o, (own.set k1 o) k2 = own k2 := fun own o => Own.set_ne _ _ q
        simp (dsimp := false) only [go_sem, ↓reduceIte, Nat.reduceEqDiff, Nat.reduceLT, Nat.reduceAdd, Nat.reduceSub, Nat.reduceMul, Nat.reduceLeDiff, reduceCtorEq, Int.reduceNeg, Int.reduceToNat, Int.reduceLT, Int.reduceLE, Int.reduceGE, Int.reduceGT, Int.reduceEq, a1, a2]
        exact ⟨_, _, conZ_weak, hfin⟩
  have hns : ∀ lt t x, ¬ safIs b lt t x := fun lt t x h => hsf ⟨lt, t, x, h⟩
  have hnp : ∀ lt x, ¬ prvIs b lt x := fun lt x h => hpv ⟨lt, x, h⟩
  have hp : PtS b (.tup [.lst 1 [], .lst 1 [], .raw (.bool false), .raw (.int .i64 (ptErr b))]) := .inr (.inr ⟨hns, hnp, rfl⟩)
  have hne := ptErr_ne b
  have hfin : opS false b k (.tup [conZ, .raw (.int .i64 (ptErr b))]) := .inr (.inr ⟨hns, hnp, rfl⟩)
  obtain ⟨e, hE⟩ : ∃ e, ptErr b = e := ⟨_, rfl⟩
  rw [hE] at hp hne hfin
  refine AC.of_body (M := []) Tryz.func112 rfl (by kernel_rfl) (Nat.le_of_ble_eq_true rfl) ?_; simp only [Tryz.results112, Tryz.ntmps112]
  simp (dsimp := false) only [go_sem, ↓reduceIte, Nat.reduceEqDiff, Nat.reduceLT, Nat.reduceAdd, Nat.reduceSub, Nat.reduceMul, Nat.reduceLeDiff, reduceCtorEq, Int.reduceNeg, Int.reduceToNat, Int.reduceLT, Int.reduceLE, Int.reduceGE, Int.reduceGT, Int.reduceEq]
  intro k1 hk1
  refine ACs.pn (rParts_pn b (by omega)) ?_
  intro d hd
  have hd := hd.unique hp
  subst hd
  simp (dsimp := false) only [go_sem, ↓reduceIte, Nat.reduceEqDiff, Nat.reduceLT, Nat.reduceAdd, Nat.reduceSub, Nat.reduceMul, Nat.reduceLeDiff, reduceCtorEq, Int.reduceNeg, Int.reduceToNat, Int.reduceLT, Int.reduceLE, Int.reduceGE, Int.reduceGT, Int.reduceEq, hne]
  exact ⟨_, _, conZ_weak, hfin⟩
theorem rOpenPrivate_pn (b : List UInt8) (k : Int) (hn : b.length ≤ 100000) : PN Tryz.prog 49 [.lst 1 (b.map byteA), .raw (.int .u64 k)] (opS false b k) := by
  refine PN.of_ac ?_
  refine AC.of_body (M := []) Tryz.func49 rfl (by kernel_rfl) (Nat.le_of_ble_eq_true rfl) ?_; simp only [Tryz.results49, Tryz.ntmps49]
  simp (dsimp := false) only [go_sem, ↓reduceIte, Nat.reduceEqDiff, Nat.reduceLT, Nat.reduceAdd, Nat.reduceSub, Nat.reduceMul, Nat.reduceLeDiff, reduceCtorEq, Int.reduceNeg, Int.reduceToNat, Int.reduceLT, Int.reduceLE, Int.reduceGE, Int.reduceGT, Int.reduceEq]
  intro k1 hk1
  refine ACs.pn (ropen11p_pn b k hn) ?_
  intro d hd
  obtain ⟨lt', y, ti, ad, tm, e, rfl⟩ := hd.form
  unfold conA at hd ⊢
  simp (dsimp := false) only [go_sem, ↓reduceIte, Nat.reduceEqDiff, Nat.reduceLT, Nat.reduceAdd, Nat.reduceSub, Nat.reduceMul, Nat.reduceLeDiff, reduceCtorEq, Int.reduceNeg, Int.reduceToNat, Int.reduceLT, Int.reduceLE, Int.reduceGE, Int.reduceGT, Int.reduceEq]
  exact hd
theorem rOpenSafe_pn (b : List UInt8) (k : Int) (hn : b.length ≤ 100000) : PN Tryz.prog 51 [.lst 1 (b.map byteA), .raw (.int .u64 k)] (opS true b k) := by
  refine PN.of_ac ?_
  refine AC.of_body (M := []) Tryz.func51 rfl (by kernel_rfl) (Nat.le_of_ble_eq_true rfl) ?_; simp only [Tryz.results51, Tryz.ntmps51]
  simp (dsimp := false) only [go_sem, ↓reduceIte, Nat.reduceEqDiff, Nat.reduceLT, Nat.reduceAdd, Nat.reduceSub, Nat.reduceMul, Nat.reduceLeDiff, reduceCtorEq, Int.reduceNeg, Int.reduceToNat, Int.reduceLT, Int.reduceLE, Int.reduceGE, Int.reduceGT, Int.reduceEq]
  intro k1 hk1
  refine ACs.pn (ropen11s_pn b k hn) ?_
  intro d hd
  obtain ⟨lt', y, ti, ad, tm, e, rfl⟩ := hd.form
  unfold conA at hd ⊢
  simp (dsimp := false) only [go_sem, ↓reduceIte, Nat.reduceEqDiff, Nat.reduceLT, Nat.reduceAdd, Nat.reduceSub, Nat.reduceMul, Nat.reduceLeDiff, reduceCtorEq, Int.reduceNeg, Int.reduceToNat, Int.reduceLT, Int.reduceLE, Int.reduceGE, Int.reduceGT, Int.reduceEq]
  exact hd
set_option maxHeartbeats 32000000 in
theorem ProtectOpens_pc (raw data bs : List UInt8) (little safe : Bool) (n m how : Int) (hn : 0 ≤ n ∧ n ≤ 255) (hm : 0 ≤ m ∧ m ≤ 255) (hh : 0 ≤ how ∧ how ≤ 65535) :
    PC Tryz.prog 5 [.lst 1 (raw.map byteA), .lst 1 (data.map byteA), .lst 1 (bs.map byteA), .raw (.bool little), .raw (.bool safe), .raw (.int .u8 n), .raw (.int .u8 m), .raw (.int .u16 how)] (.raw (.bool true)) := by
  refine PC.of_ac ?_
  have wn : IntKind.i64.wrap n = n := wrap_i64 (by omega) (by omega)
  have wm : IntKind.i64.wrap m = m := wrap_i64 (by omega) (by omega)
  have hSn := Session_pure n hn.1 (by omega)
  have hSm := Session_pure m hm.1 (by omega)
  by_cases h1 : (raw.length : Int) > 900
  · refine AC.of_body (M := []) Tryz.func5 rfl (by kernel_rfl) (Nat.le_of_ble_eq_true rfl) ?_; simp only [Tryz.results5, Tryz.ntmps5]
    simp (dsimp := false) only [go_sem, ↓reduceIte, Nat.reduceEqDiff, Nat.reduceLT, Nat.reduceAdd, Nat.reduceSub, Nat.reduceMul, Nat.reduceLeDiff, reduceCtorEq, Int.reduceNeg, Int.reduceToNat, Int.reduceLT, Int.reduceLE, Int.reduceGE, Int.reduceGT, Int.reduceEq]
    refine ACs.pure awake11_pure ?_
    simp (dsimp := false) only [go_sem, ↓reduceIte, Nat.reduceEqDiff, Nat.reduceLT, Nat.reduceAdd, Nat.reduceSub, Nat.reduceMul, Nat.reduceLeDiff, reduceCtorEq, Int.reduceNeg, Int.reduceToNat, Int.reduceLT, Int.reduceLE, Int.reduceGE, Int.reduceGT, Int.reduceEq, h1]
  by_cases h2 : (data.length : Int) > 300
  · refine AC.of_body (M := []) Tryz.func5 rfl (by kernel_rfl) (Nat.le_of_ble_eq_true rfl) ?_; simp only [Tryz.results5, Tryz.ntmps5]
    simp (dsimp := false) only [go_sem, ↓reduceIte, Nat.reduceEqDiff, Nat.reduceLT, Nat.reduceAdd, Nat.reduceSub, Nat.reduceMul, Nat.reduceLeDiff, reduceCtorEq, Int.reduceNeg, Int.reduceToNat, Int.reduceLT, Int.reduceLE, Int.reduceGE, Int.reduceGT, Int.reduceEq]
    refine ACs.pure awake11_pure ?_
    simp (dsimp := false) only [go_sem, ↓reduceIte, Nat.reduceEqDiff, Nat.reduceLT, Nat.reduceAdd, Nat.reduceSub, Nat.reduceMul, Nat.reduceLeDiff, reduceCtorEq, Int.reduceNeg, Int.reduceToNat, Int.reduceLT, Int.reduceLE, Int.reduceGE, Int.reduceGT, Int.reduceEq, h1, h2]
  by_cases h3 : (bs.length : Int) > 40
  · refine AC.of_body (M := []) Tryz.func5 rfl (by kernel_rfl) (Nat.le_of_ble_eq_true rfl) ?_; simp only [Tryz.results5, Tryz.ntmps5]
    simp (dsimp := false) only [go_sem, ↓reduceIte, Nat.reduceEqDiff, Nat.reduceLT, Nat.reduceAdd, Nat.reduceSub, Nat.reduceMul, Nat.reduceLeDiff, reduceCtorEq, Int.reduceNeg, Int.reduceToNat, Int.reduceLT, Int.reduceLE, Int.reduceGE, Int.reduceGT, Int.reduceEq]
    refine ACs.pure awake11_pure ?_
    simp (dsimp := false) only [go_sem, ↓reduceIte, Nat.reduceEqDiff, Nat.reduceLT, Nat.reduceAdd, Nat.reduceSub, Nat.reduceMul, Nat.reduceLeDiff, reduceCtorEq, Int.reduceNeg, Int.reduceToNat, Int.reduceLT, Int.reduceLE, Int.reduceGE, Int.reduceGT, Int.reduceEq, h1, h2, h3]
  obtain ⟨ti, ad, tm, hr, hA⟩ := content11_det data bs (by omega)
  have hA := hA data
  obtain ⟨K, hK⟩ : ∃ K, 144115188075855873 + n = K := ⟨_, rfl⟩
  obtain ⟨J, hJ⟩ : ∃ J, 144115188075855873 + m = J := ⟨_, rfl⟩
  rw [hK] at hSn
  rw [hJ] at hSm
  have hE1 := rMakePrivate_pure little data ti ad tm K (by omega) (by omega) (by omega)
  have hE2 := rMakeSafe_pure little data ti ad tm K (by omega) (by omega) (by omega)
  obtain ⟨y1, e1, hm1, hl1⟩ := mkA_form false little data ti ad tm K
  obtain ⟨y2, e2, hm2, hl2⟩ := mkA_form true little data ti ad tm K
  rw [hm1] at hE1
  rw [hm2] at hE2
  unfold conA at hA hE1 hE2
  refine AC.of_body (M := []) Tryz.func5 rfl (by kernel_rfl) (Nat.le_of_ble_eq_true rfl) ?_; simp only [Tryz.results5, Tryz.ntmps5]
  simp (dsimp := false) only [go_sem, ↓reduceIte, Nat.reduceEqDiff, Nat.reduceLT, Nat.reduceAdd, Nat.reduceSub, Nat.reduceMul, Nat.reduceLeDiff, reduceCtorEq, Int.reduceNeg, Int.reduceToNat, Int.reduceLT, Int.reduceLE, Int.reduceGE, Int.reduceGT, Int.reduceEq]
  refine ACs.pure awake11_pure ?_
  simp (dsimp := false) only [go_sem, ↓reduceIte, Nat.reduceEqDiff, Nat.reduceLT, Nat.reduceAdd, Nat.reduceSub, Nat.reduceMul, Nat.reduceLeDiff, reduceCtorEq, Int.reduceNeg, Int.reduceToNat, Int.reduceLT, Int.reduceLE, Int.reduceGE, Int.reduceGT, Int.reduceEq, h1, h2, h3]
  refine ACs.pure hA ?_
  simp (dsimp := false) only [go_sem, ↓reduceIte, Nat.reduceEqDiff, Nat.reduceLT, Nat.reduceAdd, Nat.reduceSub, Nat.reduceMul, Nat.reduceLeDiff, reduceCtorEq, Int.reduceNeg, Int.reduceToNat, Int.reduceLT, Int.reduceLE, Int.reduceGE, Int.reduceGT, Int.reduceEq, wn]
  refine ACs.pure hSn ?_
  simp (dsimp := false) only [go_sem, ↓reduceIte, Nat.reduceEqDiff, Nat.reduceLT, Nat.reduceAdd, Nat.reduceSub, Nat.reduceMul, Nat.reduceLeDiff, reduceCtorEq, Int.reduceNeg, Int.reduceToNat, Int.reduceLT, Int.reduceLE, Int.reduceGE, Int.reduceGT, Int.reduceEq]
  intro k0 hk0
  refine ACs.pure hE1 ?_
  simp (dsimp := false) only [go_sem, ↓reduceIte, Nat.reduceEqDiff, Nat.reduceLT, Nat.reduceAdd, Nat.reduceSub, Nat.reduceMul, Nat.reduceLeDiff, reduceCtorEq, Int.reduceNeg, Int.reduceToNat, Int.reduceLT, Int.reduceLE, Int.reduceGE, Int.reduceGT, Int.reduceEq]
  cases safe
  · simp (dsimp := false) only [go_sem, ↓reduceIte, Nat.reduceEqDiff, Nat.reduceLT, Nat.reduceAdd, Nat.reduceSub, Nat.reduceMul, Nat.reduceLeDiff, reduceCtorEq, Int.reduceNeg, Int.reduceToNat, Int.reduceLT, Int.reduceLE, Int.reduceGE, Int.reduceGT, Int.reduceEq]
    obtain ⟨M, hM, hl⟩ : ∃ M, y1 = M ∧ M.length ≤ 2000 := ⟨_, rfl, hl1⟩
    subst hM
    refine AW.loopJ (M := []) (X := Nat) (fun j => ⟨182, tmL [(0, .lst 1 (raw.map byteA)), (6, .raw (.int .u8 m)), (7, .raw (.int .u16 how)), (18, .raw (.int .u64 K)), (19, .lst 1 (y1.map byteA)), (21, .raw (.int .i64 j))], noOwn⟩)
      (fun j => j ≤ 3) (fun j => 3 - j) 0 (by decide) ?_ ?_
    · (refine Ghost.of ?_ (fun _ _ h => by cases h); (repeat' (first | exact all_nil | refine all_cons ?_ ?_)) <;> (first | (simp (dsimp := false) only [go_sem, ↓reduceIte, Nat.reduceEqDiff, Nat.reduceLT, Nat.reduceAdd, Nat.reduceSub, Nat.reduceMul, Nat.reduceLeDiff, reduceCtorEq, Int.reduceNeg, Int.reduceToNat, Int.reduceLT, Int.reduceLE, Int.reduceGE, Int.reduceGT, Int.reduceEq]; done) | (simp (dsimp := false) only [go_sem, ↓reduceIte, Nat.reduceEqDiff, Nat.reduceLT, Nat.reduceAdd, Nat.reduceSub, Nat.reduceMul, Nat.reduceLeDiff, reduceCtorEq, Int.reduceNeg, Int.reduceToNat, Int.reduceLT, Int.reduceLE, Int.reduceGE, Int.reduceGT, Int.reduceEq]; rfl)))
    intro j hj
    by_cases hj2 : (j : Int) < 3
    · have w1 : IntKind.i64.wrap ((j : Int) + 1) = ((j + 1 : Nat) : Int) := by rw [wrap_i64 (by omega) (by omega)]; omega
      simp (dsimp := false) only [go_sem, ↓reduceIte, Nat.reduceEqDiff, Nat.reduceLT, Nat.reduceAdd, Nat.reduceSub, Nat.reduceMul, Nat.reduceLeDiff, reduceCtorEq, Int.reduceNeg, Int.reduceToNat, Int.reduceLT, Int.reduceLE, Int.reduceGE, Int.reduceGT, Int.reduceEq, hj2]
      refine ACs.pn (Spoil_pn y1 how (by omega) hh.1 hh.2) ?_
      rintro _ ⟨sp, rfl, hspl⟩
      obtain ⟨X, hX, hXl⟩ : ∃ X : List UInt8, [AV.lst 1 (raw.map byteA), AV.lst 1 (y1.map byteA), AV.lst 1 (sp.map byteA)].getD j .any = AV.lst 1 (X.map byteA) ∧ X.length ≤ 3000 := by
        match j, (show j < 3 by omega) with
        | 0, _ => exact ⟨_, rfl, by omega⟩
        | 1, _ => exact ⟨_, rfl, by omega⟩
        | 2, _ => exact ⟨_, rfl, by omega⟩
      simp (dsimp := false) only [go_sem, ↓reduceIte, Nat.reduceEqDiff, Nat.reduceLT, Nat.reduceAdd, Nat.reduceSub, Nat.reduceMul, Nat.reduceLeDiff, reduceCtorEq, Int.reduceNeg, Int.reduceToNat, Int.reduceLT, Int.reduceLE, Int.reduceGE, Int.reduceGT, Int.reduceEq, hX]
      (try refine ⟨by omega, ?_⟩)
      refine AW.loopJ (M := []) (X := Nat) (fun q => ⟨182, tmL [(0, .lst 1 (raw.map byteA)), (6, .raw (.int .u8 m)), (7, .raw (.int .u16 how)), (18, .raw (.int .u64 K)), (19, .lst 1 (y1.map byteA)), (21, .raw (.int .i64 j)), (22, .lst 1 (X.map byteA)), (23, .raw (.int .i64 q))], noOwn⟩)
        (fun q => q ≤ 2) (fun q => 2 - q) 0 (by decide) ?_ ?_
      · (refine Ghost.of ?_ (fun _ _ h => by cases h); (repeat' (first | exact all_nil | refine all_cons ?_ ?_)) <;> (first | (simp (dsimp := false) only [go_sem, ↓reduceIte, Nat.reduceEqDiff, Nat.reduceLT, Nat.reduceAdd, Nat.reduceSub, Nat.reduceMul, Nat.reduceLeDiff, reduceCtorEq, Int.reduceNeg, Int.reduceToNat, Int.reduceLT, Int.reduceLE, Int.reduceGE, Int.reduceGT, Int.reduceEq]; done) | (simp (dsimp := false) only [go_sem, ↓reduceIte, Nat.reduceEqDiff, Nat.reduceLT, Nat.reduceAdd, Nat.reduceSub, Nat.reduceMul, Nat.reduceLeDiff, reduceCtorEq, Int.reduceNeg, Int.reduceToNat, Int.reduceLT, Int.reduceLE, Int.reduceGE, Int.reduceGT, Int.reduceEq]; rfl)))
      intro q hq
      by_cases hq2 : (q : Int) < 2
      · have w2 : IntKind.i64.wrap ((q : Int) + 1) = ((q + 1 : Nat) : Int) := by rw [wrap_i64 (by omega) (by omega)]; omega
        obtain ⟨Y, hY⟩ : ∃ Y : Int, [AV.raw (.int .u64 K), AV.raw (.int .u64 J)].getD q .any = AV.raw (.int .u64 Y) := by
          match q, (show q < 2 by omega) with
          | 0, _ => exact ⟨_, rfl⟩
          | 1, _ => exact ⟨_, rfl⟩
        simp (dsimp := false) only [go_sem, ↓reduceIte, Nat.reduceEqDiff, Nat.reduceLT, Nat.reduceAdd, Nat.reduceSub, Nat.reduceMul, Nat.reduceLeDiff, reduceCtorEq, Int.reduceNeg, Int.reduceToNat, Int.reduceLT, Int.reduceLE, Int.reduceGE, Int.reduceGT, Int.reduceEq, hq2, wm]
        refine ACs.pure hSm ?_
        simp (dsimp := false) only [go_sem, ↓reduceIte, Nat.reduceEqDiff, Nat.reduceLT, Nat.reduceAdd, Nat.reduceSub, Nat.reduceMul, Nat.reduceLeDiff, reduceCtorEq, Int.reduceNeg, Int.reduceToNat, Int.reduceLT, Int.reduceLE, Int.reduceGE, Int.reduceGT, Int.reduceEq, hY]
        (try refine ⟨by omega, ?_⟩)
        refine ACs.pn (OpenPrivate_pn X Y (by omega)) ?_
        intro d1 hd1
        obtain ⟨ul, u0, u1, u2, u3, ue, rfl⟩ := hd1.form
        have hs1 := Same11_refl ul ul u0 u1 u2 u3
        unfold conA at hd1 hs1 ⊢
        simp (dsimp := false) only [go_sem, ↓reduceIte, Nat.reduceEqDiff, Nat.reduceLT, Nat.reduceAdd, Nat.reduceSub, Nat.reduceMul, Nat.reduceLeDiff, reduceCtorEq, Int.reduceNeg, Int.reduceToNat, Int.reduceLT, Int.reduceLE, Int.reduceGE, Int.reduceGT, Int.reduceEq]
        intro k1 hk1
        refine ACs.pn (rOpenPrivate_pn X Y (by omega)) ?_
        intro d2 hd2
        have hd2 := hd2.unique hd1
        subst hd2
        simp (dsimp := false) only [go_sem, ↓reduceIte, Nat.reduceEqDiff, Nat.reduceLT, Nat.reduceAdd, Nat.reduceSub, Nat.reduceMul, Nat.reduceLeDiff, reduceCtorEq, Int.reduceNeg, Int.reduceToNat, Int.reduceLT, Int.reduceLE, Int.reduceGE, Int.reduceGT, Int.reduceEq]
        intro k2 hk2
        refine ACs.pn (OpenSafe_pn X Y (by omega)) ?_
        intro d3 hd3
        obtain ⟨vl, v0, v1, v2, v3, ve, rfl⟩ := hd3.form
        have hs2 := Same11_refl vl vl v0 v1 v2 v3
        unfold conA at hd3 hs2 ⊢
        simp (dsimp := false) only [go_sem, ↓reduceIte, Nat.reduceEqDiff, Nat.reduceLT, Nat.reduceAdd, Nat.reduceSub, Nat.reduceMul, Nat.reduceLeDiff, reduceCtorEq, Int.reduceNeg, Int.reduceToNat, Int.reduceLT, Int.reduceLE, Int.reduceGE, Int.reduceGT, Int.reduceEq]
        intro k3 hk3
        refine ACs.pn (rOpenSafe_pn X Y (by omega)) ?_
        intro d4 hd4
        have hd4 := hd4.unique hd3
        subst hd4
        simp (dsimp := false) only [go_sem, ↓reduceIte, Nat.reduceEqDiff, Nat.reduceLT, Nat.reduceAdd, Nat.reduceSub, Nat.reduceMul, Nat.reduceLeDiff, reduceCtorEq, Int.reduceNeg, Int.reduceToNat, Int.reduceLT, Int.reduceLE, Int.reduceGE, Int.reduceGT, Int.reduceEq]
        intro k4 hk4
        have p43 := none_ne hk4
        rw [Own.set_ne _ _ p43] at hk4
        have p42 := none_ne hk4
        rw [Own.set_ne _ _ p42] at hk4
        have p41 := none_ne hk4
        have p32 := none_ne hk3
        rw [Own.set_ne _ _ p32] at hk3
        have p31 := none_ne hk3
        have p21 := none_ne hk2
        have f1 : ∀ (own : Own) o, (own.set k4 o) k3 = own k3 := fun own o => Own.set_ne _ _ (Ne.symm p43)
        have f2 : ∀ (own : Own) o, (own.set k4 o) k2 = own k2 := fun own o => Own.set_ne _ _ (Ne.symm p42)
        have f3 : ∀ (own : Own) o, (own.set k4 o) k1 = own k1 := fun own o => Own.set_ne _ _ (Ne.symm p41)
        have f4 : ∀ (own : Own) o, (own.set k3 o) k2 = own k2 := fun own o => Own.set_ne _ _ (Ne.symm p32)
        have f5 : ∀ (own : Own) o, (own.set k3 o) k1 = own k1 := fun own o => Own.set_ne _ _ (Ne.symm p31)
        have f6 : ∀ (own : Own) o, (own.set k2 o) k1 = own k1 := fun own o => Own.set_ne _ _ (Ne.symm p21)
        simp (dsimp := false) only [go_sem, ↓reduceIte, Nat.reduceEqDiff, Nat.reduceLT, Nat.reduceAdd, Nat.reduceSub, Nat.reduceMul, Nat.reduceLeDiff, reduceCtorEq, Int.reduceNeg, Int.reduceToNat, Int.reduceLT, Int.reduceLE, Int.reduceGE, Int.reduceGT, Int.reduceEq, f1, f2, f3, f4, f5, f6]
        refine ACs.pure hs1 ?_
        simp (dsimp := false) only [go_sem, ↓reduceIte, Nat.reduceEqDiff, Nat.reduceLT, Nat.reduceAdd, Nat.reduceSub, Nat.reduceMul, Nat.reduceLeDiff, reduceCtorEq, Int.reduceNeg, Int.reduceToNat, Int.reduceLT, Int.reduceLE, Int.reduceGE, Int.reduceGT, Int.reduceEq, f1, f2, f3, f4, f5, f6]
        refine ACs.pure hs2 ?_
        simp (dsimp := false) only [go_sem, ↓reduceIte, Nat.reduceEqDiff, Nat.reduceLT, Nat.reduceAdd, Nat.reduceSub, Nat.reduceMul, Nat.reduceLeDiff, reduceCtorEq, Int.reduceNeg, Int.reduceToNat, Int.reduceLT, Int.reduceLE, Int.reduceGE, Int.reduceGT, Int.reduceEq, w2]
        refine ⟨q + 1, by omega, ?_, by omega⟩
        (refine Ghost.of ?_ (fun _ _ h => by cases h); (repeat' (first | exact all_nil | refine all_cons ?_ ?_)) <;> (first | (simp (dsimp := false) only [go_sem, ↓reduceIte, Nat.reduceEqDiff, Nat.reduceLT, Nat.reduceAdd, Nat.reduceSub, Nat.reduceMul, Nat.reduceLeDiff, reduceCtorEq, Int.reduceNeg, Int.reduceToNat, Int.reduceLT, Int.reduceLE, Int.reduceGE, Int.reduceGT, Int.reduceEq]; done) | (simp (dsimp := false) only [go_sem, ↓reduceIte, Nat.reduceEqDiff, Nat.reduceLT, Nat.reduceAdd, Nat.reduceSub, Nat.reduceMul, Nat.reduceLeDiff, reduceCtorEq, Int.reduceNeg, Int.reduceToNat, Int.reduceLT, Int.reduceLE, Int.reduceGE, Int.reduceGT, Int.reduceEq]; rfl)))
      · simp (dsimp := false) only [go_sem, ↓reduceIte, Nat.reduceEqDiff, Nat.reduceLT, Nat.reduceAdd, Nat.reduceSub, Nat.reduceMul, Nat.reduceLeDiff, reduceCtorEq, Int.reduceNeg, Int.reduceToNat, Int.reduceLT, Int.reduceLE, Int.reduceGE, Int.reduceGT, Int.reduceEq, hq2]
        refine ACs.pn (Parts_pn X (by omega)) ?_
        intro d1 hd1
        obtain ⟨t, x, lt, e, rfl⟩ := hd1.form
        simp (dsimp := false) only [go_sem, ↓reduceIte, Nat.reduceEqDiff, Nat.reduceLT, Nat.reduceAdd, Nat.reduceSub, Nat.reduceMul, Nat.reduceLeDiff, reduceCtorEq, Int.reduceNeg, Int.reduceToNat, Int.reduceLT, Int.reduceLE, Int.reduceGE, Int.reduceGT, Int.reduceEq]
        refine ACs.pn (rParts_pn X (by omega)) ?_
        intro d2 hd2
        have hd2 := hd2.unique hd1
        subst hd2
        have g1 : (!(lt == lt)) = false := by cases lt <;> rfl
        simp (dsimp := false) only [go_sem, ↓reduceIte, Nat.reduceEqDiff, Nat.reduceLT, Nat.reduceAdd, Nat.reduceSub, Nat.reduceMul, Nat.reduceLeDiff, reduceCtorEq, Int.reduceNeg, Int.reduceToNat, Int.reduceLT, Int.reduceLE, Int.reduceGE, Int.reduceGT, Int.reduceEq, bytes_eq, g1, w1]
        refine ⟨j + 1, by omega, ?_, by omega⟩
        (refine Ghost.of ?_ (fun _ _ h => by cases h); (repeat' (first | exact all_nil | refine all_cons ?_ ?_)) <;> (first | (simp (dsimp := false) only [go_sem, ↓reduceIte, Nat.reduceEqDiff, Nat.reduceLT, Nat.reduceAdd, Nat.reduceSub, Nat.reduceMul, Nat.reduceLeDiff, reduceCtorEq, Int.reduceNeg, Int.reduceToNat, Int.reduceLT, Int.reduceLE, Int.reduceGE, Int.reduceGT, Int.reduceEq]; done) | (simp (dsimp := false) only [go_sem, ↓reduceIte, Nat.reduceEqDiff, Nat.reduceLT, Nat.reduceAdd, Nat.reduceSub, Nat.reduceMul, Nat.reduceLeDiff, reduceCtorEq, Int.reduceNeg, Int.reduceToNat, Int.reduceLT, Int.reduceLE, Int.reduceGE, Int.reduceGT, Int.reduceEq]; rfl)))
    · simp (dsimp := false) only [go_sem, ↓reduceIte, Nat.reduceEqDiff, Nat.reduceLT, Nat.reduceAdd, Nat.reduceSub, Nat.reduceMul, Nat.reduceLeDiff, reduceCtorEq, Int.reduceNeg, Int.reduceToNat, Int.reduceLT, Int.reduceLE, Int.reduceGE, Int.reduceGT, Int.reduceEq, hj2]
  · simp (dsimp := false) only [go_sem, ↓reduceIte, Nat.reduceEqDiff, Nat.reduceLT, Nat.reduceAdd, Nat.reduceSub, Nat.reduceMul, Nat.reduceLeDiff, reduceCtorEq, Int.reduceNeg, Int.reduceToNat, Int.reduceLT, Int.reduceLE, Int.reduceGE, Int.reduceGT, Int.reduceEq]
    refine ACs.pure hE2 ?_
    simp (dsimp := false) only [go_sem, ↓reduceIte, Nat.reduceEqDiff, Nat.reduceLT, Nat.reduceAdd, Nat.reduceSub, Nat.reduceMul, Nat.reduceLeDiff, reduceCtorEq, Int.reduceNeg, Int.reduceToNat, Int.reduceLT, Int.reduceLE, Int.reduceGE, Int.reduceGT, Int.reduceEq]
    obtain ⟨M, hM, hl⟩ : ∃ M, y2 = M ∧ M.length ≤ 2000 := ⟨_, rfl, hl2⟩
    subst hM
    refine AW.loopJ (M := []) (X := Nat) (fun j => ⟨182, tmL [(0, .lst 1 (raw.map byteA)), (6, .raw (.int .u8 m)), (7, .raw (.int .u16 how)), (18, .raw (.int .u64 K)), (19, .lst 1 (y2.map byteA)), (21, .raw (.int .i64 j))], noOwn⟩)
      (fun j => j ≤ 3) (fun j => 3 - j) 0 (by decide) ?_ ?_
    · (refine Ghost.of ?_ (fun _ _ h => by cases h); (repeat' (first | exact all_nil | refine all_cons ?_ ?_)) <;> (first | (simp (dsimp := false) only [go_sem, ↓reduceIte, Nat.reduceEqDiff, Nat.reduceLT, Nat.reduceAdd, Nat.reduceSub, Nat.reduceMul, Nat.reduceLeDiff, reduceCtorEq, Int.reduceNeg, Int.reduceToNat, Int.reduceLT, Int.reduceLE, Int.reduceGE, Int.reduceGT, Int.reduceEq]; done) | (simp (dsimp := false) only [go_sem, ↓reduceIte, Nat.reduceEqDiff, Nat.reduceLT, Nat.reduceAdd, Nat.reduceSub, Nat.reduceMul, Nat.reduceLeDiff, reduceCtorEq, Int.reduceNeg, Int.reduceToNat, Int.reduceLT, Int.reduceLE, Int.reduceGE, Int.reduceGT, Int.reduceEq]; rfl)))
    intro j hj
    by_cases hj2 : (j : Int) < 3
    · have w1 : IntKind.i64.wrap ((j : Int) + 1) = ((j + 1 : Nat) : Int) := by rw [wrap_i64 (by omega) (by omega)]; omega
      simp (dsimp := false) only [go_sem, ↓reduceIte, Nat.reduceEqDiff, Nat.reduceLT, Nat.reduceAdd, Nat.reduceSub, Nat.reduceMul, Nat.reduceLeDiff, reduceCtorEq, Int.reduceNeg, Int.reduceToNat, Int.reduceLT, Int.reduceLE, Int.reduceGE, Int.reduceGT, Int.reduceEq, hj2]
      refine ACs.pn (Spoil_pn y2 how (by omega) hh.1 hh.2) ?_
      rintro _ ⟨sp, rfl, hspl⟩
      obtain ⟨X, hX, hXl⟩ : ∃ X : List UInt8, [AV.lst 1 (raw.map byteA), AV.lst 1 (y2.map byteA), AV.lst 1 (sp.map byteA)].getD j .any = AV.lst 1 (X.map byteA) ∧ X.length ≤ 3000 := by
        match j, (show j < 3 by omega) with
        | 0, _ => exact ⟨_, rfl, by omega⟩
        | 1, _ => exact ⟨_, rfl, by omega⟩
        | 2, _ => exact ⟨_, rfl, by omega⟩
      simp (dsimp := false) only [go_sem, ↓reduceIte, Nat.reduceEqDiff, Nat.reduceLT, Nat.reduceAdd, Nat.reduceSub, Nat.reduceMul, Nat.reduceLeDiff, reduceCtorEq, Int.reduceNeg, Int.reduceToNat, Int.reduceLT, Int.reduceLE, Int.reduceGE, Int.reduceGT, Int.reduceEq, hX]
      (try refine ⟨by omega, ?_⟩)
      refine AW.loopJ (M := []) (X := Nat) (fun q => ⟨182, tmL [(0, .lst 1 (raw.map byteA)), (6, .raw (.int .u8 m)), (7, .raw (.int .u16 how)), (18, .raw (.int .u64 K)), (19, .lst 1 (y2.map byteA)), (21, .raw (.int .i64 j)), (22, .lst 1 (X.map byteA)), (23, .raw (.int .i64 q))], noOwn⟩)
        (fun q => q ≤ 2) (fun q => 2 - q) 0 (by decide) ?_ ?_
      · (refine Ghost.of ?_ (fun _ _ h => by cases h); (repeat' (first | exact all_nil | refine all_cons ?_ ?_)) <;> (first | (simp (dsimp := false) only [go_sem, ↓reduceIte, Nat.reduceEqDiff, Nat.reduceLT, Nat.reduceAdd, Nat.reduceSub, Nat.reduceMul, Nat.reduceLeDiff, reduceCtorEq, Int.reduceNeg, Int.reduceToNat, Int.reduceLT, Int.reduceLE, Int.reduceGE, Int.reduceGT, Int.reduceEq]; done) | (simp (dsimp := false) only [go_sem, ↓reduceIte, Nat.reduceEqDiff, Nat.reduceLT, Nat.reduceAdd, Nat.reduceSub, Nat.reduceMul, Nat.reduceLeDiff, reduceCtorEq, Int.reduceNeg, Int.reduceToNat, Int.reduceLT, Int.reduceLE, Int.reduceGE, Int.reduceGT, Int.reduceEq]; rfl)))
      intro q hq
      by_cases hq2 : (q : Int) < 2
      · have w2 : IntKind.i64.wrap ((q : Int) + 1) = ((q + 1 : Nat) : Int) := by rw [wrap_i64 (by omega) (by omega)]; omega
        obtain ⟨Y, hY⟩ : ∃ Y : Int, [AV.raw (.int .u64 K), AV.raw (.int .u64 J)].getD q .any = AV.raw (.int .u64 Y) := by
          match q, (show q < 2 by omega) with
          | 0, _ => exact ⟨_, rfl⟩
          | 1, _ => exact ⟨_, rfl⟩
        simp (dsimp := false) only [go_sem, ↓reduceIte, Nat.reduceEqDiff, Nat.reduceLT, Nat.reduceAdd, Nat.reduceSub, Nat.reduceMul, Nat.reduceLeDiff, reduceCtorEq, Int.reduceNeg, Int.reduceToNat, Int.reduceLT, Int.reduceLE, Int.reduceGE, Int.reduceGT, Int.reduceEq, hq2, wm]
        refine ACs.pure hSm ?_
        simp (dsimp := false) only [go_sem, ↓reduceIte, Nat.reduceEqDiff, Nat.reduceLT, Nat.reduceAdd, Nat.reduceSub, Nat.reduceMul, Nat.reduceLeDiff, reduceCtorEq, Int.reduceNeg, Int.reduceToNat, Int.reduceLT, Int.reduceLE, Int.reduceGE, Int.reduceGT, Int.reduceEq, hY]
        (try refine ⟨by omega, ?_⟩)
        refine ACs.pn (OpenPrivate_pn X Y (by omega)) ?_
        intro d1 hd1
        obtain ⟨ul, u0, u1, u2, u3, ue, rfl⟩ := hd1.form
        have hs1 := Same11_refl ul ul u0 u1 u2 u3
        unfold conA at hd1 hs1 ⊢
        simp (dsimp := false) only [go_sem, ↓reduceIte, Nat.reduceEqDiff, Nat.reduceLT, Nat.reduceAdd, Nat.reduceSub, Nat.reduceMul, Nat.reduceLeDiff, reduceCtorEq, Int.reduceNeg, Int.reduceToNat, Int.reduceLT, Int.reduceLE, Int.reduceGE, Int.reduceGT, Int.reduceEq]
        intro k1 hk1
        refine ACs.pn (rOpenPrivate_pn X Y (by omega)) ?_
        intro d2 hd2
        have hd2 := hd2.unique hd1
        subst hd2
        simp (dsimp := false) only [go_sem, ↓reduceIte, Nat.reduceEqDiff, Nat.reduceLT, Nat.reduceAdd, Nat.reduceSub, Nat.reduceMul, Nat.reduceLeDiff, reduceCtorEq, Int.reduceNeg, Int.reduceToNat, Int.reduceLT, Int.reduceLE, Int.reduceGE, Int.reduceGT, Int.reduceEq]
        intro k2 hk2
        refine ACs.pn (OpenSafe_pn X Y (by omega)) ?_
        intro d3 hd3
        obtain ⟨vl, v0, v1, v2, v3, ve, rfl⟩ := hd3.form
        have hs2 := Same11_refl vl vl v0 v1 v2 v3
        unfold conA at hd3 hs2 ⊢
        simp (dsimp := false) only [go_sem, ↓reduceIte, Nat.reduceEqDiff, Nat.reduceLT, Nat.reduceAdd, Nat.reduceSub, Nat.reduceMul, Nat.reduceLeDiff, reduceCtorEq, Int.reduceNeg, Int.reduceToNat, Int.reduceLT, Int.reduceLE, Int.reduceGE, Int.reduceGT, Int.reduceEq]
        intro k3 hk3
        refine ACs.pn (rOpenSafe_pn X Y (by omega)) ?_
        intro d4 hd4
        have hd4 := hd4.unique hd3
        subst hd4
        simp (dsimp := false) only [go_sem, ↓reduceIte, Nat.reduceEqDiff, Nat.reduceLT, Nat.reduceAdd, Nat.reduceSub, Nat.reduceMul, Nat.reduceLeDiff, reduceCtorEq, Int.reduceNeg, Int.reduceToNat, Int.reduceLT, Int.reduceLE, Int.reduceGE, Int.reduceGT, Int.reduceEq]
        intro k4 hk4
        have p43 := none_ne hk4
        rw [Own.set_ne _ _ p43] at hk4
        have p42 := none_ne hk4
        rw [Own.set_ne _ _ p42] at hk4
        have p41 := none_ne hk4
        have p32 := none_ne hk3
        rw [Own.set_ne _ _ p32] at hk3
        have p31 := none_ne hk3
        have p21 := none_ne hk2
        have f1 : ∀ (own : Own) o, (own.set k4 o) k3 = own k3 := fun own o => Own.set_ne _ _ (Ne.symm p43)
        have f2 : ∀ (own : Own) o, (own.set k4 o) k2 = own k2 := fun own o => Own.set_ne _ _ (Ne.symm p42)
        have f3 : ∀ (own : Own) o, (own.set k4 o) k1 = own k1 := fun own o => Own.set_ne _ _ (Ne.symm p41)
        have f4 : ∀ (own : Own) o, (own.set k3 o) k2 = own k2 := fun own o => Own.set_ne _ _ (Ne.symm p32)
        have f5 : ∀ (own : Own) o, (own.set k3 o) k1 = own k1 := fun own o => Own.set_ne _ _ (Ne.symm p31)
        have f6 : ∀ (own : Own) o, (own.set k2 o) k1 = own k1 := fun own o => Own.set_ne _ _ (Ne.symm p21)
        simp (dsimp := false) only [go_sem, ↓reduceIte, Nat.reduceEqDiff, Nat.reduceLT, Nat.reduceAdd, Nat.reduceSub, Nat.reduceMul, Nat.reduceLeDiff, reduceCtorEq, Int.reduceNeg, Int.reduceToNat, Int.reduceLT, Int.reduceLE, Int.reduceGE, Int.reduceGT, Int.reduceEq, f1, f2, f3, f4, f5, f6]
        refine ACs.pure hs1 ?_
        simp (dsimp := false) only [go_sem, ↓reduceIte, Nat.reduceEqDiff, Nat.reduceLT, Nat.reduceAdd, Nat.reduceSub, Nat.reduceMul, Nat.reduceLeDiff, reduceCtorEq, Int.reduceNeg, Int.reduceToNat, Int.reduceLT, Int.reduceLE, Int.reduceGE, Int.reduceGT, Int.reduceEq, f1, f2, f3, f4, f5, f6]
        refine ACs.pure hs2 ?_
        simp (dsimp := false) only [go_sem, ↓reduceIte, Nat.reduceEqDiff, Nat.reduceLT, Nat.reduceAdd, Nat.reduceSub, Nat.reduceMul, Nat.reduceLeDiff, reduceCtorEq, Int.reduceNeg, Int.reduceToNat, Int.reduceLT, Int.reduceLE, Int.reduceGE, Int.reduceGT, Int.reduceEq, w2]
        refine ⟨q + 1, by omega, ?_, by omega⟩
        (refine Ghost.of ?_ (fun _ _ h => by cases h); (repeat' (first | exact all_nil | refine all_cons ?_ ?_)) <;> (first | (simp (dsimp := false) only [go_sem, ↓reduceIte, Nat.reduceEqDiff, Nat.reduceLT, Nat.reduceAdd, Nat.reduceSub, Nat.reduceMul, Nat.reduceLeDiff, reduceCtorEq, Int.reduceNeg, Int.reduceToNat, Int.reduceLT, Int.reduceLE, Int.reduceGE, Int.reduceGT, Int.reduceEq]; done) | (simp (dsimp := false) only [go_sem, ↓reduceIte, Nat.reduceEqDiff, Nat.reduceLT, Nat.reduceAdd, Nat.reduceSub, Nat.reduceMul, Nat.reduceLeDiff, reduceCtorEq, Int.reduceNeg, Int.reduceToNat, Int.reduceLT, Int.reduceLE, Int.reduceGE, Int.reduceGT, Int.reduceEq]; rfl)))
      · simp (dsimp := false) only [go_sem, ↓reduceIte, Nat.reduceEqDiff, Nat.reduceLT, Nat.reduceAdd, Nat.reduceSub, Nat.reduceMul, Nat.reduceLeDiff, reduceCtorEq, Int.reduceNeg, Int.reduceToNat, Int.reduceLT, Int.reduceLE, Int.reduceGE, Int.reduceGT, Int.reduceEq, hq2]
        refine ACs.pn (Parts_pn X (by omega)) ?_
        intro d1 hd1
        obtain ⟨t, x, lt, e, rfl⟩ := hd1.form
        simp (dsimp := false) only [go_sem, ↓reduceIte, Nat.reduceEqDiff, Nat.reduceLT, Nat.reduceAdd, Nat.reduceSub, Nat.reduceMul, Nat.reduceLeDiff, reduceCtorEq, Int.reduceNeg, Int.reduceToNat, Int.reduceLT, Int.reduceLE, Int.reduceGE, Int.reduceGT, Int.reduceEq]
        refine ACs.pn (rParts_pn X (by omega)) ?_
        intro d2 hd2
        have hd2 := hd2.unique hd1
        subst hd2
        have g1 : (!(lt == lt)) = false := by cases lt <;> rfl
        simp (dsimp := false) only [go_sem, ↓reduceIte, Nat.reduceEqDiff, Nat.reduceLT, Nat.reduceAdd, Nat.reduceSub, Nat.reduceMul, Nat.reduceLeDiff, reduceCtorEq, Int.reduceNeg, Int.reduceToNat, Int.reduceLT, Int.reduceLE, Int.reduceGE, Int.reduceGT, Int.reduceEq, bytes_eq, g1, w1]
        refine ⟨j + 1, by omega, ?_, by omega⟩
        (refine Ghost.of ?_ (fun _ _ h => by cases h); (repeat' (first | exact all_nil | refine all_cons ?_ ?_)) <;> (first | (simp (dsimp := false) only [go_sem, ↓reduceIte, Nat.reduceEqDiff, Nat.reduceLT, Nat.reduceAdd, Nat.reduceSub, Nat.reduceMul, Nat.reduceLeDiff, reduceCtorEq, Int.reduceNeg, Int.reduceToNat, Int.reduceLT, Int.reduceLE, Int.reduceGE, Int.reduceGT, Int.reduceEq]; done) | (simp (dsimp := false) only [go_sem, ↓reduceIte, Nat.reduceEqDiff, Nat.reduceLT, Nat.reduceAdd, Nat.reduceSub, Nat.reduceMul, Nat.reduceLeDiff, reduceCtorEq, Int.reduceNeg, Int.reduceToNat, Int.reduceLT, Int.reduceLE, Int.reduceGE, Int.reduceGT, Int.reduceEq]; rfl)))
    · simp (dsimp := false) only [go_sem, ↓reduceIte, Nat.reduceEqDiff, Nat.reduceLT, Nat.reduceAdd, Nat.reduceSub, Nat.reduceMul, Nat.reduceLeDiff, reduceCtorEq, Int.reduceNeg, Int.reduceToNat, Int.reduceLT, Int.reduceLE, Int.reduceGE, Int.reduceGT, Int.reduceEq, hj2]
end Go.Proofs.YtghnigbihllnmaaGreat.Fn
