/- Safe and private messages are opened. -/
import Derived.Test.YtghnigbihllnmaaGreatFn56
set_option linter.unusedVariables false
set_option linter.unusedSimpArgs false
namespace Go.Proofs.YtghnigbihllnmaaGreat.Fn
open Go Hl Sp Ty
set_option maxRecDepth 100000
set_option maxHeartbeats 8000000 in
theorem open11s_pn (b : List UInt8) (k : Int) (hn : b.length ≤ 100000) : PN Tryz.prog 111 [.lst 1 (b.map byteA), .raw (.int .u64 k), .raw (.bool true), .raw (.int .i64 6)] (opS true b k) := by
  refine PN.post ?_
  have hS := isSafe_pure b (by omega)
  have g1 : (!(true == true)) = false := rfl
  have g2 : (!(false == true)) = true := rfl
  have g3 : (!(true == false)) = true := rfl
  have g4 : (!(false == false)) = false := rfl
  by_cases hsf : ∃ lt t x, safIs b lt t x
  · obtain ⟨lt, t, x, hi⟩ := hsf
    have hp : PtS b (.tup [.lst 1 (t.map byteA), .lst 1 (x.map byteA), .raw (.bool lt), .raw (.int .i64 0)]) := .inl ⟨lt, t, x, hi, rfl⟩
    rw [hi.hd, decide_eq_true rfl] at hS
    have hxl := safChk_ok (safOk_chk hi.1)
    have hO := boxOpen_pure x 6 k (by omega)
    cases ho : openR x 6 k with
    | none =>
      rw [ho, openA] at hO
      have hfin : opS true b k (.tup [conZ, .raw (.int .i64 41)]) := .inl ⟨lt, t, x, hi, .inl ⟨rfl, .inr ⟨fun body y ti ad tm h _ _ => (by rw [ho] at h; cases h), rfl⟩⟩⟩
      refine AC.of_body (M := []) Tryz.func111 rfl (by kernel_rfl) (Nat.le_of_ble_eq_true rfl) ?_; simp only [Tryz.results111, Tryz.ntmps111]
      simp (dsimp := false) only [go_sem, ↓reduceIte, Nat.reduceEqDiff, Nat.reduceLT, Nat.reduceAdd, Nat.reduceSub, Nat.reduceMul, Nat.reduceLeDiff, reduceCtorEq, Int.reduceNeg, Int.reduceToNat, Int.reduceLT, Int.reduceLE, Int.reduceGE, Int.reduceGT, Int.reduceEq]
      intro k1 hk1
      refine ACs.pn (Parts_pn b (by omega)) ?_
      intro d hd
      have hd := hd.unique hp
      subst hd
      simp (dsimp := false) only [go_sem, ↓reduceIte, Nat.reduceEqDiff, Nat.reduceLT, Nat.reduceAdd, Nat.reduceSub, Nat.reduceMul, Nat.reduceLeDiff, reduceCtorEq, Int.reduceNeg, Int.reduceToNat, Int.reduceLT, Int.reduceLE, Int.reduceGE, Int.reduceGT, Int.reduceEq]
      refine ACs.pure hS ?_
      simp (dsimp := false) only [go_sem, ↓reduceIte, Nat.reduceEqDiff, Nat.reduceLT, Nat.reduceAdd, Nat.reduceSub, Nat.reduceMul, Nat.reduceLeDiff, reduceCtorEq, Int.reduceNeg, Int.reduceToNat, Int.reduceLT, Int.reduceLE, Int.reduceGE, Int.reduceGT, Int.reduceEq, g1, g2, g3, g4]
      refine ACs.pure hO ?_
      simp (dsimp := false) only [go_sem, ↓reduceIte, Nat.reduceEqDiff, Nat.reduceLT, Nat.reduceAdd, Nat.reduceSub, Nat.reduceMul, Nat.reduceLeDiff, reduceCtorEq, Int.reduceNeg, Int.reduceToNat, Int.reduceLT, Int.reduceLE, Int.reduceGE, Int.reduceGT, Int.reduceEq]
      exact ⟨_, _, conZ_weak, hfin⟩
    | some body =>
      have hbl := openR_len ho
      rw [ho, openA] at hO
      have hcd : ∀ d, conDec body lt d → body = t → (∃ y ti ad tm, d = .tup [conA lt y ti ad tm, .raw (.int .i64 0)] ∧ opS true b k d) ∨ (d = .tup [conZ, .raw (.int .i64 100)] ∧ opS true b k (.tup [conZ, .raw (.int .i64 41)])) := by
        intro d hd hq
        rcases hd with ⟨y, ti, ad, tm, h1, rfl⟩ | ⟨h1, rfl⟩
        · exact .inl ⟨y, ti, ad, tm, rfl, .inl ⟨lt, t, x, hi, .inl ⟨rfl, .inl ⟨body, y, ti, ad, tm, ho, fun t' e => (by injection e with e; rw [hq, e]), h1, rfl⟩⟩⟩⟩
        · exact .inr ⟨rfl, .inl ⟨lt, t, x, hi, .inl ⟨rfl, .inr ⟨fun body' y ti ad tm h _ h2 => (by rw [ho] at h; injection h with h; subst h; exact h1 _ _ _ _ h2), rfl⟩⟩⟩⟩
      by_cases hq : body = t
      · subst hq
        have hqq : decide (body = body) = true := decide_eq_true rfl
        refine AC.of_body (M := []) Tryz.func111 rfl (by kernel_rfl) (Nat.le_of_ble_eq_true rfl) ?_; simp only [Tryz.results111, Tryz.ntmps111]
        simp (dsimp := false) only [go_sem, ↓reduceIte, Nat.reduceEqDiff, Nat.reduceLT, Nat.reduceAdd, Nat.reduceSub, Nat.reduceMul, Nat.reduceLeDiff, reduceCtorEq, Int.reduceNeg, Int.reduceToNat, Int.reduceLT, Int.reduceLE, Int.reduceGE, Int.reduceGT, Int.reduceEq]
        intro k1 hk1
        refine ACs.pn (Parts_pn b (by omega)) ?_
        intro d hd
        have hd := hd.unique hp
        subst hd
        simp (dsimp := false) only [go_sem, ↓reduceIte, Nat.reduceEqDiff, Nat.reduceLT, Nat.reduceAdd, Nat.reduceSub, Nat.reduceMul, Nat.reduceLeDiff, reduceCtorEq, Int.reduceNeg, Int.reduceToNat, Int.reduceLT, Int.reduceLE, Int.reduceGE, Int.reduceGT, Int.reduceEq]
        refine ACs.pure hS ?_
        simp (dsimp := false) only [go_sem, ↓reduceIte, Nat.reduceEqDiff, Nat.reduceLT, Nat.reduceAdd, Nat.reduceSub, Nat.reduceMul, Nat.reduceLeDiff, reduceCtorEq, Int.reduceNeg, Int.reduceToNat, Int.reduceLT, Int.reduceLE, Int.reduceGE, Int.reduceGT, Int.reduceEq, g1, g2, g3, g4]
        refine ACs.pure hO ?_
        simp (dsimp := false) only [go_sem, ↓reduceIte, Nat.reduceEqDiff, Nat.reduceLT, Nat.reduceAdd, Nat.reduceSub, Nat.reduceMul, Nat.reduceLeDiff, reduceCtorEq, Int.reduceNeg, Int.reduceToNat, Int.reduceLT, Int.reduceLE, Int.reduceGE, Int.reduceGT, Int.reduceEq]
        refine ACs.pure (Equal_pure body body) ?_
        simp (dsimp := false) only [go_sem, ↓reduceIte, Nat.reduceEqDiff, Nat.reduceLT, Nat.reduceAdd, Nat.reduceSub, Nat.reduceMul, Nat.reduceLeDiff, reduceCtorEq, Int.reduceNeg, Int.reduceToNat, Int.reduceLT, Int.reduceLE, Int.reduceGE, Int.reduceGT, Int.reduceEq, hqq]
        refine ACs.pn (conDecode_pn body lt (by omega)) ?_
        intro d hd
        rcases hcd d hd rfl with ⟨y, ti, ad, tm, rfl, hfin⟩ | ⟨rfl, hfin⟩
        · unfold conA at hfin ⊢
          simp (dsimp := false) only [go_sem, ↓reduceIte, Nat.reduceEqDiff, Nat.reduceLT, Nat.reduceAdd, Nat.reduceSub, Nat.reduceMul, Nat.reduceLeDiff, reduceCtorEq, Int.reduceNeg, Int.reduceToNat, Int.reduceLT, Int.reduceLE, Int.reduceGE, Int.reduceGT, Int.reduceEq]
          intro k2 hk2
          have q := none_ne hk2
          have a1 : ∀ (own : Own) o, (own.set k2 o) k1 = own k1 := fun own o => Own.set_ne _ _ (Ne.symm q)
          have a2 : ∀ (own : Own) o, (own.set k1 o) k2 = own k2 := fun own o => Own.set_ne _ _ q
          simp (dsimp := false) only [go_sem, ↓reduceIte, Nat.reduceEqDiff, Nat.reduceLT, Nat.reduceAdd, Nat.reduceSub, Nat.reduceMul, Nat.reduceLeDiff, reduceCtorEq, Int.reduceNeg, Int.reduceToNat, Int.reduceLT, Int.reduceLE, Int.reduceGE, Int.reduceGT, Int.reduceEq, a1, a2]
          exact ⟨_, _, Weak1.refl _ _, hfin⟩
        · unfold conZ
          simp (dsimp := false) only [go_sem, ↓reduceIte, Nat.reduceEqDiff, Nat.reduceLT, Nat.reduceAdd, Nat.reduceSub, Nat.reduceMul, Nat.reduceLeDiff, reduceCtorEq, Int.reduceNeg, Int.reduceToNat, Int.reduceLT, Int.reduceLE, Int.reduceGE, Int.reduceGT, Int.reduceEq]
          intro k2 hk2
          have q := none_ne hk2
          have a1 : ∀ (own : Own) o, (own.set k2 o) k1 = own k1 := fun own o => Own.set_ne _ _ (Ne.symm q)
          have a2 : ∀ (own : Own) o, (own.set k1 o) k2 = own k2 := fun own o => Own.set_ne _ _ q
          simp (dsimp := false) only [go_sem, ↓reduceIte, Nat.reduceEqDiff, Nat.reduceLT, Nat.reduceAdd, Nat.reduceSub, Nat.reduceMul, Nat.reduceLeDiff, reduceCtorEq, Int.reduceNeg, Int.reduceToNat, Int.reduceLT, Int.reduceLE, Int.reduceGE, Int.reduceGT, Int.reduceEq, a1, a2]
          exact ⟨_, _, conZ_weak, hfin⟩
      · have hfin : opS true b k (.tup [conZ, .raw (.int .i64 41)]) := .inl ⟨lt, t, x, hi, .inl ⟨rfl, .inr ⟨fun body' y ti ad tm h h2 _ => (by rw [ho] at h; injection h with h; subst h; exact hq (h2 t rfl)), rfl⟩⟩⟩
        refine AC.of_body (M := []) Tryz.func111 rfl (by kernel_rfl) (Nat.le_of_ble_eq_true rfl) ?_; simp only [Tryz.results111, Tryz.ntmps111]
        simp (dsimp := false) only [go_sem, ↓reduceIte, Nat.reduceEqDiff, Nat.reduceLT, Nat.reduceAdd, Nat.reduceSub, Nat.reduceMul, Nat.reduceLeDiff, reduceCtorEq, Int.reduceNeg, Int.reduceToNat, Int.reduceLT, Int.reduceLE, Int.reduceGE, Int.reduceGT, Int.reduceEq]
        intro k1 hk1
        refine ACs.pn (Parts_pn b (by omega)) ?_
        intro d hd
        have hd := hd.unique hp
        subst hd
        simp (dsimp := false) only [go_sem, ↓reduceIte, Nat.reduceEqDiff, Nat.reduceLT, Nat.reduceAdd, Nat.reduceSub, Nat.reduceMul, Nat.reduceLeDiff, reduceCtorEq, Int.reduceNeg, Int.reduceToNat, Int.reduceLT, Int.reduceLE, Int.reduceGE, Int.reduceGT, Int.reduceEq]
        refine ACs.pure hS ?_
        simp (dsimp := false) only [go_sem, ↓reduceIte, Nat.reduceEqDiff, Nat.reduceLT, Nat.reduceAdd, Nat.reduceSub, Nat.reduceMul, Nat.reduceLeDiff, reduceCtorEq, Int.reduceNeg, Int.reduceToNat, Int.reduceLT, Int.reduceLE, Int.reduceGE, Int.reduceGT, Int.reduceEq, g1, g2, g3, g4]
        refine ACs.pure hO ?_
        simp (dsimp := false) only [go_sem, ↓reduceIte, Nat.reduceEqDiff, Nat.reduceLT, Nat.reduceAdd, Nat.reduceSub, Nat.reduceMul, Nat.reduceLeDiff, reduceCtorEq, Int.reduceNeg, Int.reduceToNat, Int.reduceLT, Int.reduceLE, Int.reduceGE, Int.reduceGT, Int.reduceEq]
        refine ACs.pure (Equal_pure body t) ?_
        simp (dsimp := false) only [go_sem, ↓reduceIte, Nat.reduceEqDiff, Nat.reduceLT, Nat.reduceAdd, Nat.reduceSub, Nat.reduceMul, Nat.reduceLeDiff, reduceCtorEq, Int.reduceNeg, Int.reduceToNat, Int.reduceLT, Int.reduceLE, Int.reduceGE, Int.reduceGT, Int.reduceEq, hq]
        exact ⟨_, _, conZ_weak, hfin⟩
  by_cases hpv : ∃ lt x, prvIs b lt x
  · obtain ⟨lt, x, hi⟩ := hpv
    have hp : PtS b (.tup [.lst 1 [], .lst 1 (x.map byteA), .raw (.bool lt), .raw (.int .i64 0)]) := .inr (.inl ⟨lt, x, hi, rfl⟩)
    rw [hi.hd7, decide_eq_false (by decide)] at hS
    have hxl := prvChk_ok (prvOk_chk hi.1)
    have hfin : opS true b k (.tup [conZ, .raw (.int .i64 40)]) := .inr (.inl ⟨lt, x, hi, .inr ⟨rfl, rfl⟩⟩)
    refine AC.of_body (M := []) Tryz.func111 rfl (by kernel_rfl) (Nat.le_of_ble_eq_true rfl) ?_; simp only [Tryz.results111, Tryz.ntmps111]
    simp (dsimp := false) only [go_sem, ↓reduceIte, Nat.reduceEqDiff, Nat.reduceLT, Nat.reduceAdd, Nat.reduceSub, Nat.reduceMul, Nat.reduceLeDiff, reduceCtorEq, Int.reduceNeg, Int.reduceToNat, Int.reduceLT, Int.reduceLE, Int.reduceGE, Int.reduceGT, Int.reduceEq]
    intro k1 hk1
    refine ACs.pn (Parts_pn b (by omega)) ?_
    intro d hd
    have hd := hd.unique hp
    subst hd
    simp (dsimp := false) only [go_sem, ↓reduceIte, Nat.reduceEqDiff, Nat.reduceLT, Nat.reduceAdd, Nat.reduceSub, Nat.reduceMul, Nat.reduceLeDiff, reduceCtorEq, Int.reduceNeg, Int.reduceToNat, Int.reduceLT, Int.reduceLE, Int.reduceGE, Int.reduceGT, Int.reduceEq]
    refine ACs.pure hS ?_
    simp (dsimp := false) only [go_sem, ↓reduceIte, Nat.reduceEqDiff, Nat.reduceLT, Nat.reduceAdd, Nat.reduceSub, Nat.reduceMul, Nat.reduceLeDiff, reduceCtorEq, Int.reduceNeg, Int.reduceToNat, Int.reduceLT, Int.reduceLE, Int.reduceGE, Int.reduceGT, Int.reduceEq, g1, g2, g3, g4]
    exact ⟨_, _, conZ_weak, hfin⟩
  have hns : ∀ lt t x, ¬ safIs b lt t x := fun lt t x h => hsf ⟨lt, t, x, h⟩
  have hnp : ∀ lt x, ¬ prvIs b lt x := fun lt x h => hpv ⟨lt, x, h⟩
  have hp : PtS b (.tup [.lst 1 [], .lst 1 [], .raw (.bool false), .raw (.int .i64 (ptErr b))]) := .inr (.inr ⟨hns, hnp, rfl⟩)
  have hne := ptErr_ne b
  have hfin : opS true b k (.tup [conZ, .raw (.int .i64 (ptErr b))]) := .inr (.inr ⟨hns, hnp, rfl⟩)
  obtain ⟨e, hE⟩ : ∃ e, ptErr b = e := ⟨_, rfl⟩
  rw [hE] at hp hne hfin
  refine AC.of_body (M := []) Tryz.func111 rfl (by kernel_rfl) (Nat.le_of_ble_eq_true rfl) ?_; simp only [Tryz.results111, Tryz.ntmps111]
  simp (dsimp := false) only [go_sem, ↓reduceIte, Nat.reduceEqDiff, Nat.reduceLT, Nat.reduceAdd, Nat.reduceSub, Nat.reduceMul, Nat.reduceLeDiff, reduceCtorEq, Int.reduceNeg, Int.reduceToNat, Int.reduceLT, Int.reduceLE, Int.reduceGE, Int.reduceGT, Int.reduceEq]
  intro k1 hk1
  refine ACs.pn (Parts_pn b (by omega)) ?_
  intro d hd
  have hd := hd.unique hp
  subst hd
  simp (dsimp := false) only [go_sem, ↓reduceIte, Nat.reduceEqDiff, Nat.reduceLT, Nat.reduceAdd, Nat.reduceSub, Nat.reduceMul, Nat.reduceLeDiff, reduceCtorEq, Int.reduceNeg, Int.reduceToNat, Int.reduceLT, Int.reduceLE, Int.reduceGE, Int.reduceGT, Int.reduceEq, hne]
  exact ⟨_, _, conZ_weak, hfin⟩
set_option maxHeartbeats 8000000 in
theorem open11p_pn (b : List UInt8) (k : Int) (hn : b.length ≤ 100000) : PN Tryz.prog 111 [.lst 1 (b.map byteA), .raw (.int .u64 k), .raw (.bool false), .raw (.int .i64 5)] (opS false b k) := by
  refine PN.post ?_
  have hS := isSafe_pure b (by omega)
  have g1 : (!(true == true)) = false := rfl
  have g2 : (!(false == true)) = true := rfl
  have g3 : (!(true == false)) = true := rfl
  have g4 : (!(false == false)) = false := rfl
  by_cases hsf : ∃ lt t x, safIs b lt t x
  · obtain ⟨lt, t, x, hi⟩ := hsf
    have hp : PtS b (.tup [.lst 1 (t.map byteA), .lst 1 (x.map byteA), .raw (.bool lt), .raw (.int .i64 0)]) := .inl ⟨lt, t, x, hi, rfl⟩
    rw [hi.hd, decide_eq_true rfl] at hS
    have hxl := safChk_ok (safOk_chk hi.1)
    have hfin : opS false b k (.tup [conZ, .raw (.int .i64 40)]) := .inl ⟨lt, t, x, hi, .inr ⟨rfl, rfl⟩⟩
    refine AC.of_body (M := []) Tryz.func111 rfl (by kernel_rfl) (Nat.le_of_ble_eq_true rfl) ?_; simp only [Tryz.results111, Tryz.ntmps111]
    simp (dsimp := false) only [go_sem, ↓reduceIte, Nat.reduceEqDiff, Nat.reduceLT, Nat.reduceAdd, Nat.reduceSub, Nat.reduceMul, Nat.reduceLeDiff, reduceCtorEq, Int.reduceNeg, Int.reduceToNat, Int.reduceLT, Int.reduceLE, Int.reduceGE, Int.reduceGT, Int.reduceEq]
    intro k1 hk1
    refine ACs.pn (Parts_pn b (by omega)) ?_
    intro d hd
    have hd := hd.unique hp
    subst hd
    simp (dsimp := false) only [go_sem, ↓reduceIte, Nat.reduceEqDiff, Nat.reduceLT, Nat.reduceAdd, Nat.reduceSub, Nat.reduceMul, Nat.reduceLeDiff, reduceCtorEq, Int.reduceNeg, Int.reduceToNat, Int.reduceLT, Int.reduceLE, Int.reduceGE, Int.reduceGT, Int.reduceEq]
    refine ACs.pure hS ?_
    simp (dsimp := false) only [go_sem, ↓reduceIte, Nat.reduceEqDiff, Nat.reduceLT, Nat.reduceAdd, Nat.reduceSub, Nat.reduceMul, Nat.reduceLeDiff, reduceCtorEq, Int.reduceNeg, Int.reduceToNat, Int.reduceLT, Int.reduceLE, Int.reduceGE, Int.reduceGT, Int.reduceEq, g1, g2, g3, g4]
    exact ⟨_, _, conZ_weak, hfin⟩
  by_cases hpv : ∃ lt x, prvIs b lt x
  · obtain ⟨lt, x, hi⟩ := hpv
    have hp : PtS b (.tup [.lst 1 [], .lst 1 (x.map byteA), .raw (.bool lt), .raw (.int .i64 0)]) := .inr (.inl ⟨lt, x, hi, rfl⟩)
    rw [hi.hd7, decide_eq_false (by decide)] at hS
    have hxl := prvChk_ok (prvOk_chk hi.1)
    have hO := boxOpen_pure x 5 k (by omega)
    cases ho : openR x 5 k with
    | none =>
      rw [ho, openA] at hO
      have hfin : opS false b k (.tup [conZ, .raw (.int .i64 41)]) := .inr (.inl ⟨lt, x, hi, .inl ⟨rfl, .inr ⟨fun body y ti ad tm h _ _ => (by rw [ho] at h; cases h), rfl⟩⟩⟩)
      refine AC.of_body (M := []) Tryz.func111 rfl (by kernel_rfl) (Nat.le_of_ble_eq_true rfl) ?_; simp only [Tryz.results111, Tryz.ntmps111]
      simp (dsimp := false) only [go_sem, ↓reduceIte, Nat.reduceEqDiff, Nat.reduceLT, Nat.reduceAdd, Nat.reduceSub, Nat.reduceMul, Nat.reduceLeDiff, reduceCtorEq, Int.reduceNeg, Int.reduceToNat, Int.reduceLT, Int.reduceLE, Int.reduceGE, Int.reduceGT, Int.reduceEq]
      intro k1 hk1
      refine ACs.pn (Parts_pn b (by omega)) ?_
      intro d hd
      have hd := hd.unique hp
      subst hd
      simp (dsimp := false) only [go_sem, ↓reduceIte, Nat.reduceEqDiff, Nat.reduceLT, Nat.reduceAdd, Nat.reduceSub, Nat.reduceMul, Nat.reduceLeDiff, reduceCtorEq, Int.reduceNeg, Int.reduceToNat, Int.reduceLT, Int.reduceLE, Int.reduceGE, Int.reduceGT, Int.reduceEq]
      refine ACs.pure hS ?_
      simp (dsimp := false) only [go_sem, ↓reduceIte, Nat.reduceEqDiff, Nat.reduceLT, Nat.reduceAdd, Nat.reduceSub, Nat.reduceMul, Nat.reduceLeDiff, reduceCtorEq, Int.reduceNeg, Int.reduceToNat, Int.reduceLT, Int.reduceLE, Int.reduceGE, Int.reduceGT, Int.reduceEq, g1, g2, g3, g4]
      refine ACs.pure hO ?_
      simp (dsimp := false) only [go_sem, ↓reduceIte, Nat.reduceEqDiff, Nat.reduceLT, Nat.reduceAdd, Nat.reduceSub, Nat.reduceMul, Nat.reduceLeDiff, reduceCtorEq, Int.reduceNeg, Int.reduceToNat, Int.reduceLT, Int.reduceLE, Int.reduceGE, Int.reduceGT, Int.reduceEq]
      exact ⟨_, _, conZ_weak, hfin⟩
    | some body =>
      have hbl := openR_len ho
      rw [ho, openA] at hO
      have hcd : ∀ d, conDec body lt d → (∃ y ti ad tm, d = .tup [conA lt y ti ad tm, .raw (.int .i64 0)] ∧ opS false b k d) ∨ (d = .tup [conZ, .raw (.int .i64 100)] ∧ opS false b k (.tup [conZ, .raw (.int .i64 41)])) := by
        intro d hd 
        rcases hd with ⟨y, ti, ad, tm, h1, rfl⟩ | ⟨h1, rfl⟩
        · exact .inl ⟨y, ti, ad, tm, rfl, .inr (.inl ⟨lt, x, hi, .inl ⟨rfl, .inl ⟨body, y, ti, ad, tm, ho, fun t' e => (by cases e), h1, rfl⟩⟩⟩)⟩
        · exact .inr ⟨rfl, .inr (.inl ⟨lt, x, hi, .inl ⟨rfl, .inr ⟨fun body' y ti ad tm h _ h2 => (by rw [ho] at h; injection h with h; subst h; exact h1 _ _ _ _ h2), rfl⟩⟩⟩)⟩
      refine AC.of_body (M := []) Tryz.func111 rfl (by kernel_rfl) (Nat.le_of_ble_eq_true rfl) ?_; simp only [Tryz.results111, Tryz.ntmps111]
      simp (dsimp := false) only [go_sem, ↓reduceIte, Nat.reduceEqDiff, Nat.reduceLT, Nat.reduceAdd, Nat.reduceSub, Nat.reduceMul, Nat.reduceLeDiff, reduceCtorEq, Int.reduceNeg, Int.reduceToNat, Int.reduceLT, Int.reduceLE, Int.reduceGE, Int.reduceGT, Int.reduceEq]
      intro k1 hk1
      refine ACs.pn (Parts_pn b (by omega)) ?_
      intro d hd
      have hd := hd.unique hp
      subst hd
      simp (dsimp := false) only [go_sem, ↓reduceIte, Nat.reduceEqDiff, Nat.reduceLT, Nat.reduceAdd, Nat.reduceSub, Nat.reduceMul, Nat.reduceLeDiff, reduceCtorEq, Int.reduceNeg, Int.reduceToNat, Int.reduceLT, Int.reduceLE, Int.reduceGE, Int.reduceGT, Int.reduceEq]
      refine ACs.pure hS ?_
      simp (dsimp := false) only [go_sem, ↓reduceIte, Nat.reduceEqDiff, Nat.reduceLT, Nat.reduceAdd, Nat.reduceSub, Nat.reduceMul, Nat.reduceLeDiff, reduceCtorEq, Int.reduceNeg, Int.reduceToNat, Int.reduceLT, Int.reduceLE, Int.reduceGE, Int.reduceGT, Int.reduceEq, g1, g2, g3, g4]
      refine ACs.pure hO ?_
      simp (dsimp := false) only [go_sem, ↓reduceIte, Nat.reduceEqDiff, Nat.reduceLT, Nat.reduceAdd, Nat.reduceSub, Nat.reduceMul, Nat.reduceLeDiff, reduceCtorEq, Int.reduceNeg, Int.reduceToNat, Int.reduceLT, Int.reduceLE, Int.reduceGE, Int.reduceGT, Int.reduceEq]
      refine ACs.pn (conDecode_pn body lt (by omega)) ?_
      intro d hd
      rcases hcd d hd  with ⟨y, ti, ad, tm, rfl, hfin⟩ | ⟨rfl, hfin⟩
      · unfold conA at hfin ⊢
        simp (dsimp := false) only [go_sem, ↓reduceIte, Nat.reduceEqDiff, Nat.reduceLT, Nat.reduceAdd, Nat.reduceSub, Nat.reduceMul, Nat.reduceLeDiff, reduceCtorEq, Int.reduceNeg, Int.reduceToNat, Int.reduceLT, Int.reduceLE, Int.reduceGE, Int.reduceGT, Int.reduceEq]
        intro k2 hk2
        have q := none_ne hk2
        have a1 : ∀ (own : Own) o, (own.set k2 o) k1 = own k1 := fun own o => Own.set_ne _ _ (Ne.symm q)
        have a2 : ∀ (own : Own) o, (own.set k1 o) k2 = own k2 := fun own o => Own.set_ne _ _ q
        simp (dsimp := false) only [go_sem, ↓reduceIte, Nat.reduceEqDiff, Nat.reduceLT, Nat.reduceAdd, Nat.reduceSub, Nat.reduceMul, Nat.reduceLeDiff, reduceCtorEq, Int.reduceNeg, Int.reduceToNat, Int.reduceLT, Int.reduceLE, Int.reduceGE, Int.reduceGT, Int.reduceEq, a1, a2]
        exact ⟨_, _, Weak1.refl _ _, hfin⟩
      · unfold conZ
        simp (dsimp := false) only [go_sem, ↓reduceIte, Nat.reduceEqDiff, Nat.reduceLT, Nat.reduceAdd, Nat.reduceSub, Nat.reduceMul, Nat.reduceLeDiff, reduceCtorEq, Int.reduceNeg, Int.reduceToNat, Int.reduceLT, Int.reduceLE, Int.reduceGE, Int.reduceGT, Int.reduceEq]
        intro k2 hk2
        have q := none_ne hk2
        have a1 : ∀ (own : Own) o, (own.set k2 o) k1 = own k1 := fun own o => Own.set_ne _ _ (Ne.symm q)
        have a2 : ∀ (own : Own) o, (own.set k1 o) k2 = own k2 := fun own o => Own.set_ne _ _ q
        simp (dsimp := false) only [go_sem, ↓reduceIte, Nat.reduceEqDiff, Nat.reduceLT, Nat.reduceAdd, Nat.reduceSub, Nat.reduceMul, Nat.reduceLeDiff, reduceCtorEq, Int.reduceNeg, Int.reduceToNat, Int.reduceLT, Int.reduceLE, Int.reduceGE, Int.reduceGT, Int.reduceEq, a1, a2]
        exact ⟨_, _, conZ_weak, hfin⟩
  have hns : ∀ lt t x, ¬ safIs b lt t x := fun lt t x h => hsf ⟨lt, t, x, h⟩
  have hnp : ∀ lt x, ¬ prvIs b lt x := fun lt x h => hpv ⟨lt, x, h⟩
  have hp : PtS b (.tup [.lst 1 [], .lst 1 [], .raw (.bool false), .raw (.int .i64 (ptErr b))]) := .inr (.inr ⟨hns, hnp, rfl⟩)
  have hne := ptErr_ne b
  have hfin : opS false b k (.tup [conZ, .raw (.int .i64 (ptErr b))]) := .inr (.inr ⟨hns, hnp, rfl⟩)
  obtain ⟨e, hE⟩ : ∃ e, ptErr b = e := ⟨_, rfl⟩
  rw [hE] at hp hne hfin
  refine AC.of_body (M := []) Tryz.func111 rfl (by kernel_rfl) (Nat.le_of_ble_eq_true rfl) ?_; simp only [Tryz.results111, Tryz.ntmps111]
  simp (dsimp := false) only [go_sem, ↓reduceIte, Nat.reduceEqDiff, Nat.reduceLT, Nat.reduceAdd, Nat.reduceSub, Nat.reduceMul, Nat.reduceLeDiff, reduceCtorEq, Int.reduceNeg, Int.reduceToNat, Int.reduceLT, Int.reduceLE, Int.reduceGE, Int.reduceGT, Int.reduceEq]
  intro k1 hk1
  refine ACs.pn (Parts_pn b (by omega)) ?_
  intro d hd
  have hd := hd.unique hp
  subst hd
  simp (dsimp := false) only [go_sem, ↓reduceIte, Nat.reduceEqDiff, Nat.reduceLT, Nat.reduceAdd, Nat.reduceSub, Nat.reduceMul, Nat.reduceLeDiff, reduceCtorEq, Int.reduceNeg, Int.reduceToNat, Int.reduceLT, Int.reduceLE, Int.reduceGE, Int.reduceGT, Int.reduceEq, hne]
  exact ⟨_, _, conZ_weak, hfin⟩
theorem OpenPrivate_pn (b : List UInt8) (k : Int) (hn : b.length ≤ 100000) : PN Tryz.prog 48 [.lst 1 (b.map byteA), .raw (.int .u64 k)] (opS false b k) := by
  refine PN.of_ac ?_
  refine AC.of_body (M := []) Tryz.func48 rfl (by kernel_rfl) (Nat.le_of_ble_eq_true rfl) ?_; simp only [Tryz.results48, Tryz.ntmps48]
  simp (dsimp := false) only [go_sem, ↓reduceIte, Nat.reduceEqDiff, Nat.reduceLT, Nat.reduceAdd, Nat.reduceSub, Nat.reduceMul, Nat.reduceLeDiff, reduceCtorEq, Int.reduceNeg, Int.reduceToNat, Int.reduceLT, Int.reduceLE, Int.reduceGE, Int.reduceGT, Int.reduceEq]
  intro k1 hk1
  refine ACs.pn (open11p_pn b k hn) ?_
  intro d hd
  obtain ⟨lt', y, ti, ad, tm, e, rfl⟩ := hd.form
  unfold conA at hd ⊢
  simp (dsimp := false) only [go_sem, ↓reduceIte, Nat.reduceEqDiff, Nat.reduceLT, Nat.reduceAdd, Nat.reduceSub, Nat.reduceMul, Nat.reduceLeDiff, reduceCtorEq, Int.reduceNeg, Int.reduceToNat, Int.reduceLT, Int.reduceLE, Int.reduceGE, Int.reduceGT, Int.reduceEq]
  exact hd
theorem OpenSafe_pn (b : List UInt8) (k : Int) (hn : b.length ≤ 100000) : PN Tryz.prog 50 [.lst 1 (b.map byteA), .raw (.int .u64 k)] (opS true b k) := by
  refine PN.of_ac ?_
  refine AC.of_body (M := []) Tryz.func50 rfl (by kernel_rfl) (Nat.le_of_ble_eq_true rfl) ?_; simp only [Tryz.results50, Tryz.ntmps50]
  simp (dsimp := false) only [go_sem, ↓reduceIte, Nat.reduceEqDiff, Nat.reduceLT, Nat.reduceAdd, Nat.reduceSub, Nat.reduceMul, Nat.reduceLeDiff, reduceCtorEq, Int.reduceNeg, Int.reduceToNat, Int.reduceLT, Int.reduceLE, Int.reduceGE, Int.reduceGT, Int.reduceEq]
  intro k1 hk1
  refine ACs.pn (open11s_pn b k hn) ?_
  intro d hd
  obtain ⟨lt', y, ti, ad, tm, e, rfl⟩ := hd.form
  unfold conA at hd ⊢
  simp (dsimp := false) only [go_sem, ↓reduceIte, Nat.reduceEqDiff, Nat.reduceLT, Nat.reduceAdd, Nat.reduceSub, Nat.reduceMul, Nat.reduceLeDiff, reduceCtorEq, Int.reduceNeg, Int.reduceToNat, Int.reduceLT, Int.reduceLE, Int.reduceGE, Int.reduceGT, Int.reduceEq]
  exact hd
end Go.Proofs.YtghnigbihllnmaaGreat.Fn
