/- Requests to a KDC are decoded. -/
import Derived.Test.YtghnigbihllnmaaGreatFn38
import Derived.Test.YtghnigbihllnmaaGreatFn15
set_option linter.unusedVariables false
set_option linter.unusedSimpArgs false
namespace Go.Proofs.YtghnigbihllnmaaGreat.Fn
open Go Hl Sp Ty
set_option maxRecDepth 100000
theorem hdIs_len {b : List UInt8} {ks : List Int} {lt : Bool} (h : hdIs b ks = (lt, 0)) : (2 : Int) ≤ b.length := by
  by_cases hl : (b.length : Int) < 2
  · rw [hdIs, hdR, if_pos hl] at h
    simp at h
  · omega
theorem kdcOpen_own (b : List UInt8) (kind : Int) (lt : Bool) (e : Int) (hn : b.length ≤ 140737488355000) (hI : hdIs b [kind] = (lt, e)) (own : Own) (K : AV → Own → Prop)
    (h : (e ≠ 0 → K (.tup [.raw (.pointer none), .raw (.bool false), .raw (.int .i64 e)]) own) ∧ (e = 0 → ∀ k, own k = none → K (.tup [.raw (.pointer (some ⟨k, 0, none⟩)), .raw (.bool lt), .raw (.int .i64 0)]) (own.set k (curO b lt (2, false))))) :
    AC Tryz.prog 71 [.lst 1 (b.map byteA), .raw (.int .i64 kind)] own K := by
  have hP := hdIs_pure b [kind] hn (by simp)
  rw [hI] at hP
  simp only [List.map_cons, List.map_nil, iA] at hP
  refine AC.of_body (M := []) Tryz.func71 rfl (by kernel_rfl) (Nat.le_of_ble_eq_true rfl) ?_; simp only [Tryz.results71, Tryz.ntmps71]
  simp (dsimp := false) only [go_sem, ↓reduceIte, Nat.reduceEqDiff, Nat.reduceLT, Nat.reduceAdd, Nat.reduceSub, Nat.reduceMul, Nat.reduceLeDiff, reduceCtorEq, Int.reduceNeg, Int.reduceToNat, Int.reduceLT, Int.reduceLE, Int.reduceGE, Int.reduceGT, Int.reduceEq]
  refine ACs.pure hP ?_
  by_cases he : e = 0
  · simp (dsimp := false) only [go_sem, ↓reduceIte, Nat.reduceEqDiff, Nat.reduceLT, Nat.reduceAdd, Nat.reduceSub, Nat.reduceMul, Nat.reduceLeDiff, reduceCtorEq, Int.reduceNeg, Int.reduceToNat, Int.reduceLT, Int.reduceLE, Int.reduceGE, Int.reduceGT, Int.reduceEq, he]
    refine ACs.of (CNew_own b 2 lt _ _ fun k hk => ?_)
    simp (dsimp := false) only [go_sem, ↓reduceIte, Nat.reduceEqDiff, Nat.reduceLT, Nat.reduceAdd, Nat.reduceSub, Nat.reduceMul, Nat.reduceLeDiff, reduceCtorEq, Int.reduceNeg, Int.reduceToNat, Int.reduceLT, Int.reduceLE, Int.reduceGE, Int.reduceGT, Int.reduceEq]
    exact h.2 he k hk
  · simp (dsimp := false) only [go_sem, ↓reduceIte, Nat.reduceEqDiff, Nat.reduceLT, Nat.reduceAdd, Nat.reduceSub, Nat.reduceMul, Nat.reduceLeDiff, reduceCtorEq, Int.reduceNeg, Int.reduceToNat, Int.reduceLT, Int.reduceLE, Int.reduceGE, Int.reduceGT, Int.reduceEq, he]
    exact h.1 he
theorem kdcIs_own (b : List UInt8) (lt : Bool) (s : Int × Bool) (k : Nat) (own : Own) (K : AV → Own → Prop) (hk : own k = some (curO b lt s)) (x : List UInt8) (e : Int)
    (h : K (.raw (.bool (!s.2 && decide (e = 0) && decide (x = b)))) own) :
    AC Tryz.prog 76 [.lst 1 (b.map byteA), .raw (.pointer (some ⟨k, 0, none⟩)), .lst 1 (x.map byteA), .raw (.int .i64 e)] own K := by
  refine AC.of_body (M := []) Tryz.func76 rfl (by kernel_rfl) (Nat.le_of_ble_eq_true rfl) ?_; simp only [Tryz.results76, Tryz.ntmps76]
  simp (dsimp := false) only [go_sem, ↓reduceIte, Nat.reduceEqDiff, Nat.reduceLT, Nat.reduceAdd, Nat.reduceSub, Nat.reduceMul, Nat.reduceLeDiff, reduceCtorEq, Int.reduceNeg, Int.reduceToNat, Int.reduceLT, Int.reduceLE, Int.reduceGE, Int.reduceGT, Int.reduceEq]
  refine ACs.of (CBad_own b lt s k _ _ hk ?_)
  rcases Bool.eq_false_or_eq_true s.2 with hb | hb
  · rw [hb] at h
    simp (dsimp := false) only [go_sem, ↓reduceIte, Nat.reduceEqDiff, Nat.reduceLT, Nat.reduceAdd, Nat.reduceSub, Nat.reduceMul, Nat.reduceLeDiff, reduceCtorEq, Int.reduceNeg, Int.reduceToNat, Int.reduceLT, Int.reduceLE, Int.reduceGE, Int.reduceGT, Int.reduceEq, hb]
    exact h
  · rw [hb] at h
    by_cases he : e = 0
    · simp only [he, decide_true, Bool.not_false, Bool.true_and] at h
      simp (dsimp := false) only [go_sem, ↓reduceIte, Nat.reduceEqDiff, Nat.reduceLT, Nat.reduceAdd, Nat.reduceSub, Nat.reduceMul, Nat.reduceLeDiff, reduceCtorEq, Int.reduceNeg, Int.reduceToNat, Int.reduceLT, Int.reduceLE, Int.reduceGE, Int.reduceGT, Int.reduceEq, hb, he]
      refine ACs.pure (Equal_pure x b) ?_
      simp (dsimp := false) only [go_sem, ↓reduceIte, Nat.reduceEqDiff, Nat.reduceLT, Nat.reduceAdd, Nat.reduceSub, Nat.reduceMul, Nat.reduceLeDiff, reduceCtorEq, Int.reduceNeg, Int.reduceToNat, Int.reduceLT, Int.reduceLE, Int.reduceGE, Int.reduceGT, Int.reduceEq]
      exact h
    · simp only [he, decide_false, Bool.not_false, Bool.true_and, Bool.false_and] at h
      simp (dsimp := false) only [go_sem, ↓reduceIte, Nat.reduceEqDiff, Nat.reduceLT, Nat.reduceAdd, Nat.reduceSub, Nat.reduceMul, Nat.reduceLeDiff, reduceCtorEq, Int.reduceNeg, Int.reduceToNat, Int.reduceLT, Int.reduceLE, Int.reduceGE, Int.reduceGT, Int.reduceEq, hb, he]
      exact h
set_option maxHeartbeats 8000000 in
theorem reqDecode_pn (b : List UInt8) (hn : b.length ≤ 140737488355000) : PN Tryz.prog 16 [.lst 1 (b.map byteA)] (reqDec b) := by
  refine PN.of_ac ?_
  obtain ⟨⟨lt, e⟩, hI⟩ : ∃ x, hdIs b [1] = x := ⟨_, rfl⟩
  by_cases he : e = 0
  rotate_left
  · refine AC.of_body (M := []) Tryz.func16 rfl (by kernel_rfl) (Nat.le_of_ble_eq_true rfl) ?_; simp only [Tryz.results16, Tryz.ntmps16]
    simp (dsimp := false) only [go_sem, ↓reduceIte, Nat.reduceEqDiff, Nat.reduceLT, Nat.reduceAdd, Nat.reduceSub, Nat.reduceMul, Nat.reduceLeDiff, reduceCtorEq, Int.reduceNeg, Int.reduceToNat, Int.reduceLT, Int.reduceLE, Int.reduceGE, Int.reduceGT, Int.reduceEq]
    intro k1 hk1
    refine ACs.of (kdcOpen_own b 1 lt e hn hI _ _ ⟨fun _ => ?_, fun h => absurd h he⟩)
    simp (dsimp := false) only [go_sem, ↓reduceIte, Nat.reduceEqDiff, Nat.reduceLT, Nat.reduceAdd, Nat.reduceSub, Nat.reduceMul, Nat.reduceLeDiff, reduceCtorEq, Int.reduceNeg, Int.reduceToNat, Int.reduceLT, Int.reduceLE, Int.reduceGE, Int.reduceGT, Int.reduceEq, he]
    refine .inr ⟨fun lt' n' i' r' tm' li' s' t' h => ?_, by rw [reqErr, hI, if_neg he]; rfl⟩
    have := hI.symm.trans h.hd
    simp only [Prod.mk.injEq] at this
    exact he this.2
  · subst he
    have herr : reqErr b = 100 := by rw [reqErr, hI]; rfl
    have o0 : 0 ≤ ((2 : Int), false).1 ∧ ((2 : Int), false).1 ≤ b.length := ⟨by decide, hdIs_len hI⟩
    obtain ⟨⟨⟨p1_1, p1_2, p1_3⟩, s1⟩, e1⟩ : ∃ x, cPrin b (2, false) = x := ⟨_, rfl⟩
    have o1 : 0 ≤ s1.1 ∧ s1.1 ≤ b.length := by have := cPrin_ok (b := b) (s := (2, false)) o0.1 o0.2; rw [e1] at this; exact this
    have z1 := cPrin_small b (2, false)
    rw [e1] at z1
    simp only at z1
    obtain ⟨x2, e2⟩ : ∃ x, cNum b 4 lt s1 = x := ⟨_, rfl⟩
    have o2 : 0 ≤ x2.2.1 ∧ x2.2.1 ≤ b.length := by rw [← e2]; exact cNum_ok o1.1 o1.2
    obtain ⟨x3, e3⟩ : ∃ x, cNum b 1 false x2.2 = x := ⟨_, rfl⟩
    have o3 : 0 ≤ x3.2.1 ∧ x3.2.1 ≤ b.length := by rw [← e3]; exact cNum_ok o2.1 o2.2
    obtain ⟨x4, e4⟩ : ∃ x, cTxt b x3.2 = x := ⟨_, rfl⟩
    have o4 : 0 ≤ x4.2.1 ∧ x4.2.1 ≤ b.length := by rw [← e4]; exact cTxt_ok o3.1 o3.2
    have z4 : x4.1.size ≤ 39 := by rw [← e4]; exact cTxt_small _ _
    obtain ⟨x5, e5⟩ : ∃ x, cTxt b x4.2 = x := ⟨_, rfl⟩
    have o5 : 0 ≤ x5.2.1 ∧ x5.2.1 ≤ b.length := by rw [← e5]; exact cTxt_ok o4.1 o4.2
    have z5 : x5.1.size ≤ 39 := by rw [← e5]; exact cTxt_small _ _
    have hR : reqR b lt (2, false) = ((p1_1, p1_2, p1_3), x2.1, x3.1, x4.1, x5.1, x5.2.2) := by simp only [reqR, e1, e2, e3, e4, e5]
    have hE := reqEncode_pure lt p1_1 p1_2 p1_3 x2.1 x3.1 x4.1 x5.1 (by omega) (by omega) (by omega) (by omega) (by omega) 
    unfold reqA reqE at hE
    have key : ∀ lt' n' i' r' tm' li' s' t', reqIs b lt' n' i' r' tm' li' s' t' → lt' = lt ∧ n' = p1_1 ∧ i' = p1_2 ∧ r' = p1_3 ∧ tm' = x2.1 ∧ li' = x3.1 ∧ s' = x4.1 ∧ t' = x5.1 ∧ x5.2.2 = false := fun lt' n' i' r' tm' li' s' t' h => by
      have hl : lt' = lt := by have := hI.symm.trans h.hd; simp only [Prod.mk.injEq] at this; exact this.1.symm
      subst hl
      have := h.read.symm.trans hR
      simp only [Prod.mk.injEq] at this
      obtain ⟨⟨a0, b0, d0⟩, a1, a2, a3, a4, j⟩ := this
      exact ⟨rfl, a0, b0, d0, a1, a2, a3, a4, j.symm⟩
    refine AC.of_body (M := []) Tryz.func16 rfl (by kernel_rfl) (Nat.le_of_ble_eq_true rfl) ?_; simp only [Tryz.results16, Tryz.ntmps16]
    simp (dsimp := false) only [go_sem, ↓reduceIte, Nat.reduceEqDiff, Nat.reduceLT, Nat.reduceAdd, Nat.reduceSub, Nat.reduceMul, Nat.reduceLeDiff, reduceCtorEq, Int.reduceNeg, Int.reduceToNat, Int.reduceLT, Int.reduceLE, Int.reduceGE, Int.reduceGT, Int.reduceEq]
    intro k1 hk1
    refine ACs.of (kdcOpen_own b 1 lt 0 hn hI _ _ ⟨fun h => absurd rfl h, fun _ k hk => ?_⟩)
    have n1 := none_ne hk
    have a1 : ∀ (own : Own) o, (own.set k1 o) k = own k := fun own o => Own.set_ne _ _ n1
    have a2 : ∀ (own : Own) o, (own.set k o) k1 = own k1 := fun own o => Own.set_ne _ _ (Ne.symm n1)
    simp (dsimp := false) only [go_sem, ↓reduceIte, Nat.reduceEqDiff, Nat.reduceLT, Nat.reduceAdd, Nat.reduceSub, Nat.reduceMul, Nat.reduceLeDiff, reduceCtorEq, Int.reduceNeg, Int.reduceToNat, Int.reduceLT, Int.reduceLE, Int.reduceGE, Int.reduceGT, Int.reduceEq, a1, a2]
    refine ACs.of (CPrincipal_own b lt (2, false) k _ _ (by simp only [a1, a2, Own.set_same]) hn ?_)
    simp (dsimp := false) only [go_sem, ↓reduceIte, Nat.reduceEqDiff, Nat.reduceLT, Nat.reduceAdd, Nat.reduceSub, Nat.reduceMul, Nat.reduceLeDiff, reduceCtorEq, Int.reduceNeg, Int.reduceToNat, Int.reduceLT, Int.reduceLE, Int.reduceGE, Int.reduceGT, Int.reduceEq, e1, prinA, a1, a2]
    intro k2 hk2
    have n2 := none_ne hk2
    have hk2' := hk2
    rw [Own.set_ne _ _ n2] at hk2'
    have n12 := none_ne hk2'
    have b1 : ∀ (own : Own) o, (own.set k2 o) k = own k := fun own o => Own.set_ne _ _ (Ne.symm n2)
    have b2 : ∀ (own : Own) o, (own.set k o) k2 = own k2 := fun own o => Own.set_ne _ _ n2
    have b3 : ∀ (own : Own) o, (own.set k2 o) k1 = own k1 := fun own o => Own.set_ne _ _ (Ne.symm n12)
    have b4 : ∀ (own : Own) o, (own.set k1 o) k2 = own k2 := fun own o => Own.set_ne _ _ n12
    clear hk2 hk2' hk hk1
    refine ACs.of (CNumber_own b lt s1 k _ _ (by simp only [a1, a2, b1, b2, b3, b4, Own.set_same]) o1.1 o1.2 hn ?_)
    simp (dsimp := false) only [go_sem, ↓reduceIte, Nat.reduceEqDiff, Nat.reduceLT, Nat.reduceAdd, Nat.reduceSub, Nat.reduceMul, Nat.reduceLeDiff, reduceCtorEq, Int.reduceNeg, Int.reduceToNat, Int.reduceLT, Int.reduceLE, Int.reduceGE, Int.reduceGT, Int.reduceEq, e2, a1, a2, b1, b2, b3, b4]
    refine ACs.of (COctet_own b lt x2.2 k _ _ (by simp only [a1, a2, b1, b2, b3, b4, Own.set_same]) o2.1 o2.2 hn ?_)
    simp (dsimp := false) only [go_sem, ↓reduceIte, Nat.reduceEqDiff, Nat.reduceLT, Nat.reduceAdd, Nat.reduceSub, Nat.reduceMul, Nat.reduceLeDiff, reduceCtorEq, Int.reduceNeg, Int.reduceToNat, Int.reduceLT, Int.reduceLE, Int.reduceGE, Int.reduceGT, Int.reduceEq, e3, a1, a2, b1, b2, b3, b4]
    refine ACs.of (CText_own b lt x3.2 k _ _ (by simp only [a1, a2, b1, b2, b3, b4, Own.set_same]) hn ?_)
    simp (dsimp := false) only [go_sem, ↓reduceIte, Nat.reduceEqDiff, Nat.reduceLT, Nat.reduceAdd, Nat.reduceSub, Nat.reduceMul, Nat.reduceLeDiff, reduceCtorEq, Int.reduceNeg, Int.reduceToNat, Int.reduceLT, Int.reduceLE, Int.reduceGE, Int.reduceGT, Int.reduceEq, e4, a1, a2, b1, b2, b3, b4]
    refine ACs.of (CText_own b lt x4.2 k _ _ (by simp only [a1, a2, b1, b2, b3, b4, Own.set_same]) hn ?_)
    simp (dsimp := false) only [go_sem, ↓reduceIte, Nat.reduceEqDiff, Nat.reduceLT, Nat.reduceAdd, Nat.reduceSub, Nat.reduceMul, Nat.reduceLeDiff, reduceCtorEq, Int.reduceNeg, Int.reduceToNat, Int.reduceLT, Int.reduceLE, Int.reduceGE, Int.reduceGT, Int.reduceEq, e5, a1, a2, b1, b2, b3, b4]
    refine ACs.pure hE ?_
    simp (dsimp := false) only [go_sem, ↓reduceIte, Nat.reduceEqDiff, Nat.reduceLT, Nat.reduceAdd, Nat.reduceSub, Nat.reduceMul, Nat.reduceLeDiff, reduceCtorEq, Int.reduceNeg, Int.reduceToNat, Int.reduceLT, Int.reduceLE, Int.reduceGE, Int.reduceGT, Int.reduceEq, a1, a2, b1, b2, b3, b4]
    refine ACs.of (kdcIs_own b lt x5.2 k _ _ (by simp only [a1, a2, b1, b2, b3, b4, Own.set_same]) _ _ ?_)
    rcases Bool.eq_false_or_eq_true x5.2.2 with hb | hb
    · simp (dsimp := false) only [go_sem, ↓reduceIte, Nat.reduceEqDiff, Nat.reduceLT, Nat.reduceAdd, Nat.reduceSub, Nat.reduceMul, Nat.reduceLeDiff, reduceCtorEq, Int.reduceNeg, Int.reduceToNat, Int.reduceLT, Int.reduceLE, Int.reduceGE, Int.reduceGT, Int.reduceEq, hb, a1, a2, b1, b2, b3, b4, Bool.not_true, Bool.not_false, Bool.true_and, Bool.false_and, Bool.and_false, Bool.and_true, decide_true, decide_false, decide_eq_true_eq]
      refine .inr ⟨fun lt' n' i' r' tm' li' s' t' h => ?_, by rw [herr]; rfl⟩
      rw [(key _ _ _ _ _ _ _ _ h).2.2.2.2.2.2.2.2] at hb
      cases hb
    by_cases hc : reqChk lt p1_1 p1_2 p1_3 x2.1 x3.1 x4.1 x5.1 = 0
    · simp only [hc, if_true]
      by_cases hq : reqB lt p1_1 p1_2 p1_3 x2.1 x3.1 x4.1 x5.1 = b
      · simp (dsimp := false) only [go_sem, ↓reduceIte, Nat.reduceEqDiff, Nat.reduceLT, Nat.reduceAdd, Nat.reduceSub, Nat.reduceMul, Nat.reduceLeDiff, reduceCtorEq, Int.reduceNeg, Int.reduceToNat, Int.reduceLT, Int.reduceLE, Int.reduceGE, Int.reduceGT, Int.reduceEq, hb, hc, hq, bytes_eq, a1, a2, b1, b2, b3, b4, Bool.not_true, Bool.not_false, Bool.true_and, Bool.false_and, Bool.and_false, Bool.and_true, decide_true, decide_false, decide_eq_true_eq]
        exact .inl ⟨_, _, _, _, _, _, _, _, ⟨hc, hq⟩, rfl⟩
      · simp (dsimp := false) only [go_sem, ↓reduceIte, Nat.reduceEqDiff, Nat.reduceLT, Nat.reduceAdd, Nat.reduceSub, Nat.reduceMul, Nat.reduceLeDiff, reduceCtorEq, Int.reduceNeg, Int.reduceToNat, Int.reduceLT, Int.reduceLE, Int.reduceGE, Int.reduceGT, Int.reduceEq, hb, hc, hq, bytes_eq, a1, a2, b1, b2, b3, b4, Bool.not_true, Bool.not_false, Bool.true_and, Bool.false_and, Bool.and_false, Bool.and_true, decide_true, decide_false, decide_eq_true_eq]
        refine .inr ⟨fun lt' n' i' r' tm' li' s' t' h => ?_, by rw [herr]; rfl⟩
        obtain ⟨rfl, rfl, rfl, rfl, rfl, rfl, rfl, rfl, _⟩ := key _ _ _ _ _ _ _ _ h
        exact hq h.2
    · simp (dsimp := false) only [go_sem, ↓reduceIte, Nat.reduceEqDiff, Nat.reduceLT, Nat.reduceAdd, Nat.reduceSub, Nat.reduceMul, Nat.reduceLeDiff, reduceCtorEq, Int.reduceNeg, Int.reduceToNat, Int.reduceLT, Int.reduceLE, Int.reduceGE, Int.reduceGT, Int.reduceEq, hb, hc, a1, a2, b1, b2, b3, b4, Bool.not_true, Bool.not_false, Bool.true_and, Bool.false_and, Bool.and_false, Bool.and_true, decide_true, decide_false, decide_eq_true_eq]
      refine .inr ⟨fun lt' n' i' r' tm' li' s' t' h => ?_, by rw [herr]; rfl⟩
      obtain ⟨rfl, rfl, rfl, rfl, rfl, rfl, rfl, rfl, _⟩ := key _ _ _ _ _ _ _ _ h
      exact hc (reqOk_chk h.1)
end Go.Proofs.YtghnigbihllnmaaGreat.Fn
