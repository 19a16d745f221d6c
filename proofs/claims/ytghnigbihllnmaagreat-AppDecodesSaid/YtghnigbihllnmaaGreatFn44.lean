/- AP requests are decoded. -/
import Derived.Test.YtghnigbihllnmaaGreatFn43
import Derived.Test.YtghnigbihllnmaaGreatFn15
set_option linter.unusedVariables false
set_option linter.unusedSimpArgs false
namespace Go.Proofs.YtghnigbihllnmaaGreat.Fn
open Go Hl Sp Ty
set_option maxRecDepth 100000
set_option maxHeartbeats 4000000 in
theorem apRead_own (b : List UInt8) (lt mu : Bool) (s : Int × Bool) (k : Nat) (own : Own) (K : AV → Own → Prop) (hk : own k = some (curO b lt s)) (o0 : 0 ≤ s.1 ∧ s.1 ≤ b.length) (hn : b.length ≤ 140737488355000)
    (x1 x3 x4 : Int × Int × Bool) (x2 : ByteArray × Int × Bool) (x5 x6 : List UInt8 × Int × Bool)
    (e1 : cNum b 1 false s = x1) (e2 : cTxt b x1.2 = x2) (e3 : cNum b 1 false x2.2 = x3) (e4 : cNum b 1 false x3.2 = x4) (e5 : cByt b x3.1 x4.2 = x5) (e6 : cByt b x4.1 x5.2 = x6)
    (h : K (.st [.raw (.bool lt), .raw (.bool mu), .raw (.int .i64 x1.1), .raw (.string x2.1), .lst 1 (x5.1.map byteA), .lst 1 (x6.1.map byteA)]) (own.set k (curO b lt x6.2))) :
    AC Tryz.prog 100 [.raw (.pointer (some ⟨k, 0, none⟩)), .raw (.bool lt), .raw (.bool mu)] own K := by
  refine AC.sub (own' := own.set k (curO b lt x6.2)) (d0 := .st [.raw (.bool lt), .raw (.bool mu), .raw (.int .i64 x1.1), .raw (.string x2.1), .lst 1 (x5.1.map byteA), .lst 1 (x6.1.map byteA)]) ?_ h
  have o1 : 0 ≤ x1.2.1 ∧ x1.2.1 ≤ b.length := by rw [← e1]; exact cNum_ok o0.1 o0.2
  have o2 : 0 ≤ x2.2.1 ∧ x2.2.1 ≤ b.length := by rw [← e2]; exact cTxt_ok o1.1 o1.2
  have o3 : 0 ≤ x3.2.1 ∧ x3.2.1 ≤ b.length := by rw [← e3]; exact cNum_ok o2.1 o2.2
  have o4 : 0 ≤ x4.2.1 ∧ x4.2.1 ≤ b.length := by rw [← e4]; exact cNum_ok o3.1 o3.2
  have hp5 : 0 ≤ x3.1 := by rw [← e3]; exact cNum_nn _ _ _ _
  have hq5 : x3.1 ≤ 65535 := by rw [← e3]; exact cNum_le _ _ _ _ (by decide)
  have hp6 : 0 ≤ x4.1 := by rw [← e4]; exact cNum_nn _ _ _ _
  have hq6 : x4.1 ≤ 65535 := by rw [← e4]; exact cNum_le _ _ _ _ (by decide)
  have o5 : 0 ≤ x5.2.1 ∧ x5.2.1 ≤ b.length := by rw [← e5]; exact cByt_ok o4.1 o4.2 hp5
  refine AC.of_body (M := []) Tryz.func100 rfl (by kernel_rfl) (Nat.le_of_ble_eq_true rfl) ?_; simp only [Tryz.results100, Tryz.ntmps100]
  simp (dsimp := false) only [go_sem, ↓reduceIte, Nat.reduceEqDiff, Nat.reduceLT, Nat.reduceAdd, Nat.reduceSub, Nat.reduceMul, Nat.reduceLeDiff, reduceCtorEq, Int.reduceNeg, Int.reduceToNat, Int.reduceLT, Int.reduceLE, Int.reduceGE, Int.reduceGT, Int.reduceEq]
  intro k1 hk1
  have m1 := some_ne hk hk1
  have a1 : ∀ (own : Own) o, (own.set k1 o) k = own k := fun own o => Own.set_ne _ _ (Ne.symm m1)
  have a2 : ∀ (own : Own) o, (own.set k o) k1 = own k1 := fun own o => Own.set_ne _ _ m1
  refine ACs.of (COctet_own b lt s k _ _ ((a1 _ _).trans hk) o0.1 o0.2 hn ?_)
  simp (dsimp := false) only [go_sem, ↓reduceIte, Nat.reduceEqDiff, Nat.reduceLT, Nat.reduceAdd, Nat.reduceSub, Nat.reduceMul, Nat.reduceLeDiff, reduceCtorEq, Int.reduceNeg, Int.reduceToNat, Int.reduceLT, Int.reduceLE, Int.reduceGE, Int.reduceGT, Int.reduceEq, e1, a1, a2]
  intro k2 hk2
  have m2 := none_ne hk2
  have hk2' := hk2
  rw [Own.set_ne _ _ m2] at hk2'
  have m3 := none_ne hk2'
  rw [Own.set_ne _ _ m3] at hk2'
  have b1 : ∀ (own : Own) o, (own.set k2 o) k = own k := fun own o => Own.set_ne _ _ (Ne.symm m2)
  have b2 : ∀ (own : Own) o, (own.set k o) k2 = own k2 := fun own o => Own.set_ne _ _ m2
  have b3 : ∀ (own : Own) o, (own.set k2 o) k1 = own k1 := fun own o => Own.set_ne _ _ (Ne.symm m3)
  have b4 : ∀ (own : Own) o, (own.set k1 o) k2 = own k2 := fun own o => Own.set_ne _ _ m3
  refine ACs.of (CText_own b lt x1.2 k _ _ (by simp only [a1, a2, b1, b2, b3, b4, Own.set_same]) hn ?_)
  simp (dsimp := false) only [go_sem, ↓reduceIte, Nat.reduceEqDiff, Nat.reduceLT, Nat.reduceAdd, Nat.reduceSub, Nat.reduceMul, Nat.reduceLeDiff, reduceCtorEq, Int.reduceNeg, Int.reduceToNat, Int.reduceLT, Int.reduceLE, Int.reduceGE, Int.reduceGT, Int.reduceEq, e2, a1, a2, b1, b2, b3, b4]
  refine ACs.of (COctet_own b lt x2.2 k _ _ (by simp only [a1, a2, b1, b2, b3, b4, Own.set_same]) o2.1 o2.2 hn ?_)
  simp (dsimp := false) only [go_sem, ↓reduceIte, Nat.reduceEqDiff, Nat.reduceLT, Nat.reduceAdd, Nat.reduceSub, Nat.reduceMul, Nat.reduceLeDiff, reduceCtorEq, Int.reduceNeg, Int.reduceToNat, Int.reduceLT, Int.reduceLE, Int.reduceGE, Int.reduceGT, Int.reduceEq, e3, a1, a2, b1, b2, b3, b4]
  refine ACs.of (COctet_own b lt x3.2 k _ _ (by simp only [a1, a2, b1, b2, b3, b4, Own.set_same]) o3.1 o3.2 hn ?_)
  simp (dsimp := false) only [go_sem, ↓reduceIte, Nat.reduceEqDiff, Nat.reduceLT, Nat.reduceAdd, Nat.reduceSub, Nat.reduceMul, Nat.reduceLeDiff, reduceCtorEq, Int.reduceNeg, Int.reduceToNat, Int.reduceLT, Int.reduceLE, Int.reduceGE, Int.reduceGT, Int.reduceEq, e4, a1, a2, b1, b2, b3, b4]
  refine ACs.of (CBytes_own b x3.1 lt x4.2 k _ _ (by simp only [a1, a2, b1, b2, b3, b4, Own.set_same]) o4.1 o4.2 hp5 (by omega) hn ?_)
  simp (dsimp := false) only [go_sem, ↓reduceIte, Nat.reduceEqDiff, Nat.reduceLT, Nat.reduceAdd, Nat.reduceSub, Nat.reduceMul, Nat.reduceLeDiff, reduceCtorEq, Int.reduceNeg, Int.reduceToNat, Int.reduceLT, Int.reduceLE, Int.reduceGE, Int.reduceGT, Int.reduceEq, e5, a1, a2, b1, b2, b3, b4]
  refine ACs.of (CBytes_own b x4.1 lt x5.2 k _ _ (by simp only [a1, a2, b1, b2, b3, b4, Own.set_same]) o5.1 o5.2 hp6 (by omega) hn ?_)
  simp (dsimp := false) only [go_sem, ↓reduceIte, Nat.reduceEqDiff, Nat.reduceLT, Nat.reduceAdd, Nat.reduceSub, Nat.reduceMul, Nat.reduceLeDiff, reduceCtorEq, Int.reduceNeg, Int.reduceToNat, Int.reduceLT, Int.reduceLE, Int.reduceGE, Int.reduceGT, Int.reduceEq, e6, a1, a2, b1, b2, b3, b4]
  intro j q hj
  by_cases f0 : j = k
  · subst f0
    simp only [a1, a2, b1, b2, b3, b4, Own.set_same] at hj ⊢
    exact hj
  · have s0 : ∀ (own : Own) o, (own.set k o) j = own j := fun own o => Own.set_ne _ _ f0
    simp only [s0] at hj
    have f1 : j ≠ k1 := fun e => by rw [e, hk1] at hj; cases hj
    have f2 : j ≠ k2 := fun e => by rw [e, hk2'] at hj; cases hj
    have s1 : ∀ (own : Own) o, (own.set k1 o) j = own j := fun own o => Own.set_ne _ _ f1
    have s2 : ∀ (own : Own) o, (own.set k2 o) j = own j := fun own o => Own.set_ne _ _ f2
    simp only [s0, s1, s2]
    exact hj
theorem apZ_weak {own : Own} {e : AV} : Weak1 own (.tup [.st [.raw (.bool false), .raw (.bool false), .raw (.int .i64 0), .raw (.string ⟨#[]⟩), .raw (.slice none 0 0), .raw (.slice none 0 0)], e]) own (.tup [apZ, e]) :=
  Weak1.tup (Weak.one (pre := []) (Weak1.trans (Weak1.st (Weak.one (pre := [.raw (.bool false), .raw (.bool false), .raw (.int .i64 0), .raw (.string ⟨#[]⟩)]) (post := [.raw (.slice none 0 0)]) (Weak1.nil (wd := 1))))
    (Weak1.st (Weak.one (pre := [.raw (.bool false), .raw (.bool false), .raw (.int .i64 0), .raw (.string ⟨#[]⟩), .lst 1 []]) (post := []) (Weak1.nil (wd := 1))))))
set_option maxHeartbeats 8000000 in
theorem apDecode_pn (b : List UInt8) (hn : b.length ≤ 140737488355000) : PN Tryz.prog 33 [.lst 1 (b.map byteA)] (apDec b) := by
  refine PN.post ?_
  obtain ⟨⟨lt, e⟩, hI⟩ : ∃ x, hdIs b [3, 4] = x := ⟨_, rfl⟩
  have hP := hdIs_pure b [3, 4] hn (by simp)
  rw [hI] at hP
  simp only [List.map_cons, List.map_nil, iA] at hP
  by_cases he : e = 0
  rotate_left
  · refine AC.of_body (M := []) Tryz.func33 rfl (by kernel_rfl) (Nat.le_of_ble_eq_true rfl) ?_; simp only [Tryz.results33, Tryz.ntmps33]
    simp (dsimp := false) only [go_sem, ↓reduceIte, Nat.reduceEqDiff, Nat.reduceLT, Nat.reduceAdd, Nat.reduceSub, Nat.reduceMul, Nat.reduceLeDiff, reduceCtorEq, Int.reduceNeg, Int.reduceToNat, Int.reduceLT, Int.reduceLE, Int.reduceGE, Int.reduceGT, Int.reduceEq]
    intro k1 hk1
    refine ACs.pure hP ?_
    simp (dsimp := false) only [go_sem, ↓reduceIte, Nat.reduceEqDiff, Nat.reduceLT, Nat.reduceAdd, Nat.reduceSub, Nat.reduceMul, Nat.reduceLeDiff, reduceCtorEq, Int.reduceNeg, Int.reduceToNat, Int.reduceLT, Int.reduceLE, Int.reduceGE, Int.reduceGT, Int.reduceEq, he]
    refine ⟨.tup [apZ, .raw (.int .i64 e)], _, apZ_weak, .inr ⟨fun lt' mu' kv' r' tk' au' h => ?_, by rw [apErr, hI, if_neg he]⟩⟩
    have := hI.symm.trans h.hd
    simp only [Prod.mk.injEq] at this
    exact he this.2
  · subst he
    have herr : apErr b = 100 := by rw [apErr, hI]; rfl
    have o0 : 0 ≤ ((2 : Int), false).1 ∧ ((2 : Int), false).1 ≤ b.length := ⟨by decide, hdIs_len hI⟩
    have hP2 := hdIs_pure b [4] hn (by simp)
    simp only [List.map_cons, List.map_nil, iA] at hP2
    obtain ⟨mu, hM⟩ : ∃ m, decide ((hdIs b [4]).2 = 0) = m := ⟨_, rfl⟩
    obtain ⟨x1, e1⟩ : ∃ x, cNum b 1 false (2, false) = x := ⟨_, rfl⟩
    have o1 : 0 ≤ x1.2.1 ∧ x1.2.1 ≤ b.length := by rw [← e1]; exact cNum_ok o0.1 o0.2
    obtain ⟨x2, e2⟩ : ∃ x, cTxt b x1.2 = x := ⟨_, rfl⟩
    have o2 : 0 ≤ x2.2.1 ∧ x2.2.1 ≤ b.length := by rw [← e2]; exact cTxt_ok o1.1 o1.2
    have z2 : x2.1.size ≤ 39 := by rw [← e2]; exact cTxt_small _ _
    obtain ⟨x3, e3⟩ : ∃ x, cNum b 1 false x2.2 = x := ⟨_, rfl⟩
    have o3 : 0 ≤ x3.2.1 ∧ x3.2.1 ≤ b.length := by rw [← e3]; exact cNum_ok o2.1 o2.2
    obtain ⟨x4, e4⟩ : ∃ x, cNum b 1 false x3.2 = x := ⟨_, rfl⟩
    have o4 : 0 ≤ x4.2.1 ∧ x4.2.1 ≤ b.length := by rw [← e4]; exact cNum_ok o3.1 o3.2
    obtain ⟨x5, e5⟩ : ∃ x, cByt b x3.1 x4.2 = x := ⟨_, rfl⟩
    have hp5 : 0 ≤ x3.1 := by rw [← e3]; exact cNum_nn _ _ _ _
    have hq5 : x3.1 ≤ 65535 := by rw [← e3]; exact cNum_le _ _ _ _ (by decide)
    have o5 : 0 ≤ x5.2.1 ∧ x5.2.1 ≤ b.length := by rw [← e5]; exact cByt_ok o4.1 o4.2 hp5
    have zl5 : x5.1.length ≤ 65535 := by rw [← e5]; exact cByt_le _ _ _ () (by omega)
    obtain ⟨x6, e6⟩ : ∃ x, cByt b x4.1 x5.2 = x := ⟨_, rfl⟩
    have hp6 : 0 ≤ x4.1 := by rw [← e4]; exact cNum_nn _ _ _ _
    have hq6 : x4.1 ≤ 65535 := by rw [← e4]; exact cNum_le _ _ _ _ (by decide)
    have o6 : 0 ≤ x6.2.1 ∧ x6.2.1 ≤ b.length := by rw [← e6]; exact cByt_ok o5.1 o5.2 hp6
    have zl6 : x6.1.length ≤ 65535 := by rw [← e6]; exact cByt_le _ _ _ () (by omega)
    have hR : apR b lt (2, false) = (x1.1, x2.1, x3.1, x4.1, x5.1, x6.1, x6.2.2) := by simp only [apR, e1, e2, e3, e4, e5, e6]
    have hE := apEncode_pure lt mu x1.1 x2.1 x5.1 x6.1 (by omega) (by omega) (by omega)
    unfold apA apE at hE
    have key : ∀ lt' mu' kv' r' tk' au', apIs b lt' mu' kv' r' tk' au' → lt' = lt ∧ mu' = mu ∧ kv' = x1.1 ∧ r' = x2.1 ∧ tk' = x5.1 ∧ au' = x6.1 ∧ x6.2.2 = false := fun lt' mu' kv' r' tk' au' h => by
      have hl : lt' = lt := by have := hI.symm.trans h.hd; simp only [Prod.mk.injEq] at this; exact this.1.symm
      subst hl
      have := h.read.symm.trans hR
      simp only [Prod.mk.injEq] at this
      obtain ⟨a0, a1, a2, a3, a4, a5, j⟩ := this
      exact ⟨rfl, (h.mu.symm.trans hM), a0, a1, a4, a5, j.symm⟩
    refine AC.of_body (M := []) Tryz.func33 rfl (by kernel_rfl) (Nat.le_of_ble_eq_true rfl) ?_; simp only [Tryz.results33, Tryz.ntmps33]
    simp (dsimp := false) only [go_sem, ↓reduceIte, Nat.reduceEqDiff, Nat.reduceLT, Nat.reduceAdd, Nat.reduceSub, Nat.reduceMul, Nat.reduceLeDiff, reduceCtorEq, Int.reduceNeg, Int.reduceToNat, Int.reduceLT, Int.reduceLE, Int.reduceGE, Int.reduceGT, Int.reduceEq]
    intro k1 hk1
    refine ACs.pure hP ?_
    simp (dsimp := false) only [go_sem, ↓reduceIte, Nat.reduceEqDiff, Nat.reduceLT, Nat.reduceAdd, Nat.reduceSub, Nat.reduceMul, Nat.reduceLeDiff, reduceCtorEq, Int.reduceNeg, Int.reduceToNat, Int.reduceLT, Int.reduceLE, Int.reduceGE, Int.reduceGT, Int.reduceEq]
    refine ACs.pure hP2 ?_
    simp (dsimp := false) only [go_sem, ↓reduceIte, Nat.reduceEqDiff, Nat.reduceLT, Nat.reduceAdd, Nat.reduceSub, Nat.reduceMul, Nat.reduceLeDiff, reduceCtorEq, Int.reduceNeg, Int.reduceToNat, Int.reduceLT, Int.reduceLE, Int.reduceGE, Int.reduceGT, Int.reduceEq, hM]
    refine ACs.of (CNew_own b 2 lt _ _ fun k hk => ?_)
    have n1 := none_ne hk
    have a1 : ∀ (own : Own) o, (own.set k1 o) k = own k := fun own o => Own.set_ne _ _ n1
    have a2 : ∀ (own : Own) o, (own.set k o) k1 = own k1 := fun own o => Own.set_ne _ _ (Ne.symm n1)
    simp (dsimp := false) only [go_sem, ↓reduceIte, Nat.reduceEqDiff, Nat.reduceLT, Nat.reduceAdd, Nat.reduceSub, Nat.reduceMul, Nat.reduceLeDiff, reduceCtorEq, Int.reduceNeg, Int.reduceToNat, Int.reduceLT, Int.reduceLE, Int.reduceGE, Int.reduceGT, Int.reduceEq, a1, a2, hM]
    refine ACs.of (apRead_own b lt mu (2, false) k _ _ (Own.set_same _ _ _) o0 hn x1 x3 x4 x2 x5 x6 e1 e2 e3 e4 e5 e6 ?_)
    simp (dsimp := false) only [go_sem, ↓reduceIte, Nat.reduceEqDiff, Nat.reduceLT, Nat.reduceAdd, Nat.reduceSub, Nat.reduceMul, Nat.reduceLeDiff, reduceCtorEq, Int.reduceNeg, Int.reduceToNat, Int.reduceLT, Int.reduceLE, Int.reduceGE, Int.reduceGT, Int.reduceEq, a1, a2]
    intro k2 hk2
    have n2 := none_ne hk2
    have hk2' := hk2
    rw [Own.set_ne _ _ n2] at hk2'
    have n12 := none_ne hk2'
    have b1 : ∀ (own : Own) o, (own.set k2 o) k = own k := fun own o => Own.set_ne _ _ (Ne.symm n2)
    have b2 : ∀ (own : Own) o, (own.set k o) k2 = own k2 := fun own o => Own.set_ne _ _ n2
    have b3 : ∀ (own : Own) o, (own.set k2 o) k1 = own k1 := fun own o => Own.set_ne _ _ (Ne.symm n12)
    have b4 : ∀ (own : Own) o, (own.set k1 o) k2 = own k2 := fun own o => Own.set_ne _ _ n12
    clear hk2 hk2' hk hk1
    refine ACs.pure hE ?_
    simp (dsimp := false) only [go_sem, ↓reduceIte, Nat.reduceEqDiff, Nat.reduceLT, Nat.reduceAdd, Nat.reduceSub, Nat.reduceMul, Nat.reduceLeDiff, reduceCtorEq, Int.reduceNeg, Int.reduceToNat, Int.reduceLT, Int.reduceLE, Int.reduceGE, Int.reduceGT, Int.reduceEq, a1, a2, b1, b2, b3, b4]
    refine ACs.of (CBad_own b lt x6.2 k _ _ (by simp only [a1, a2, b1, b2, b3, b4, Own.set_same]) ?_)
    rcases Bool.eq_false_or_eq_true x6.2.2 with hb | hb
    · simp (dsimp := false) only [go_sem, ↓reduceIte, Nat.reduceEqDiff, Nat.reduceLT, Nat.reduceAdd, Nat.reduceSub, Nat.reduceMul, Nat.reduceLeDiff, reduceCtorEq, Int.reduceNeg, Int.reduceToNat, Int.reduceLT, Int.reduceLE, Int.reduceGE, Int.reduceGT, Int.reduceEq, hb, a1, a2, b1, b2, b3, b4]
      refine ⟨.tup [apZ, .raw (.int .i64 100)], _, apZ_weak, .inr ⟨fun lt' mu' kv' r' tk' au' h => ?_, by rw [herr]⟩⟩
      rw [(key _ _ _ _ _ _ h).2.2.2.2.2.2] at hb
      cases hb
    by_cases hc : apChk lt mu x1.1 x2.1 x5.1 x6.1 = 0
    · simp (dsimp := false) only [go_sem, ↓reduceIte, Nat.reduceEqDiff, Nat.reduceLT, Nat.reduceAdd, Nat.reduceSub, Nat.reduceMul, Nat.reduceLeDiff, reduceCtorEq, Int.reduceNeg, Int.reduceToNat, Int.reduceLT, Int.reduceLE, Int.reduceGE, Int.reduceGT, Int.reduceEq, hb, hc, a1, a2, b1, b2, b3, b4]
      refine ACs.pure (Equal_pure _ b) ?_
      by_cases hq : apB lt mu x1.1 x2.1 x5.1 x6.1 = b
      · simp (dsimp := false) only [go_sem, ↓reduceIte, Nat.reduceEqDiff, Nat.reduceLT, Nat.reduceAdd, Nat.reduceSub, Nat.reduceMul, Nat.reduceLeDiff, reduceCtorEq, Int.reduceNeg, Int.reduceToNat, Int.reduceLT, Int.reduceLE, Int.reduceGE, Int.reduceGT, Int.reduceEq, hq, a1, a2, b1, b2, b3, b4]
        exact ⟨_, _, Weak1.refl _ _, .inl ⟨_, _, _, _, _, _, ⟨hc, hq⟩, rfl⟩⟩
      · simp (dsimp := false) only [go_sem, ↓reduceIte, Nat.reduceEqDiff, Nat.reduceLT, Nat.reduceAdd, Nat.reduceSub, Nat.reduceMul, Nat.reduceLeDiff, reduceCtorEq, Int.reduceNeg, Int.reduceToNat, Int.reduceLT, Int.reduceLE, Int.reduceGE, Int.reduceGT, Int.reduceEq, hq, a1, a2, b1, b2, b3, b4]
        refine ⟨.tup [apZ, .raw (.int .i64 100)], _, apZ_weak, .inr ⟨fun lt' mu' kv' r' tk' au' h => ?_, by rw [herr]⟩⟩
        obtain ⟨rfl, rfl, rfl, rfl, rfl, rfl, _⟩ := key _ _ _ _ _ _ h
        exact hq h.2
    · simp (dsimp := false) only [go_sem, ↓reduceIte, Nat.reduceEqDiff, Nat.reduceLT, Nat.reduceAdd, Nat.reduceSub, Nat.reduceMul, Nat.reduceLeDiff, reduceCtorEq, Int.reduceNeg, Int.reduceToNat, Int.reduceLT, Int.reduceLE, Int.reduceGE, Int.reduceGT, Int.reduceEq, hb, hc, a1, a2, b1, b2, b3, b4]
      refine ⟨.tup [apZ, .raw (.int .i64 100)], _, apZ_weak, .inr ⟨fun lt' mu' kv' r' tk' au' h => ?_, by rw [herr]⟩⟩
      obtain ⟨rfl, rfl, rfl, rfl, rfl, rfl, _⟩ := key _ _ _ _ _ _ h
      exact hc (apOk_chk h.1)
end Go.Proofs.YtghnigbihllnmaaGreat.Fn
