/- The law on answers of a service. -/
import Derived.Test.YtghnigbihllnmaaGreatFn45
import Derived.Test.YtghnigbihllnmaaGreatFn44
import Derived.Test.YtghnigbihllnmaaGreatFn1
set_option linter.unusedVariables false
set_option linter.unusedSimpArgs false
namespace Go.Proofs.YtghnigbihllnmaaGreat.Fn
open Go Hl Sp Ty
set_option maxRecDepth 100000
set_option maxHeartbeats 8000000 in
theorem ansDecode_pn (b : List UInt8) (hn : b.length ≤ 140737488355000) : PN Tryz.prog 41 [.lst 1 (b.map byteA)] (ansDec b) := by
  refine PN.post ?_
  obtain ⟨⟨lt, e⟩, hI⟩ : ∃ x, hdIs b [8] = x := ⟨_, rfl⟩
  have hP := hdIs_pure b [8] hn (by simp)
  rw [hI] at hP
  simp only [List.map_cons, List.map_nil, iA] at hP
  by_cases he : e = 0
  rotate_left
  · refine AC.of_body (M := []) Tryz.func41 rfl (by kernel_rfl) (Nat.le_of_ble_eq_true rfl) ?_; simp only [Tryz.results41, Tryz.ntmps41]
    simp (dsimp := false) only [go_sem, ↓reduceIte, Nat.reduceEqDiff, Nat.reduceLT, Nat.reduceAdd, Nat.reduceSub, Nat.reduceMul, Nat.reduceLeDiff, reduceCtorEq, Int.reduceNeg, Int.reduceToNat, Int.reduceLT, Int.reduceLE, Int.reduceGE, Int.reduceGT, Int.reduceEq]
    refine ACs.pure hP ?_
    simp (dsimp := false) only [go_sem, ↓reduceIte, Nat.reduceEqDiff, Nat.reduceLT, Nat.reduceAdd, Nat.reduceSub, Nat.reduceMul, Nat.reduceLeDiff, reduceCtorEq, Int.reduceNeg, Int.reduceToNat, Int.reduceLT, Int.reduceLE, Int.reduceGE, Int.reduceGT, Int.reduceEq, he]
    refine ⟨.tup [ansZ, .raw (.bool false), .raw (.int .i64 e)], _, Weak1.tup (Weak.one (pre := []) Weak1.nil), .inr ⟨fun lt' x' h => ?_, by rw [ansErr, hI, if_neg he]⟩⟩
    have := hI.symm.trans h.hd
    simp only [Prod.mk.injEq] at this
    exact he this.2
  · subst he
    have herr : ansErr b = 100 := by rw [ansErr, hI]; rfl
    have o0 : 0 ≤ ((2 : Int), false).1 ∧ ((2 : Int), false).1 ≤ b.length := ⟨by decide, hdIs_len hI⟩
    obtain ⟨x1, e1⟩ : ∃ x, cNum b 2 lt (2, false) = x := ⟨_, rfl⟩
    have o1 : 0 ≤ x1.2.1 ∧ x1.2.1 ≤ b.length := by rw [← e1]; exact cNum_ok o0.1 o0.2
    obtain ⟨x2, e2⟩ : ∃ x, cByt b x1.1 x1.2 = x := ⟨_, rfl⟩
    have hp2 : 0 ≤ x1.1 := by rw [← e1]; exact cNum_nn _ _ _ _
    have hq2 : x1.1 ≤ 65535 := by rw [← e1]; exact cNum_le _ _ _ _ (by decide)
    have o2 : 0 ≤ x2.2.1 ∧ x2.2.1 ≤ b.length := by rw [← e2]; exact cByt_ok o1.1 o1.2 hp2
    have zl2 : x2.1.length ≤ 65535 := by rw [← e2]; exact cByt_le _ _ _ () (by omega)
    have hR : ansR b lt (2, false) = (x1.1, x2.1, x2.2.2) := by simp only [ansR, e1, e2]
    have hE := ansEncode_pure lt x2.1 (by omega)
    unfold ansA ansE at hE
    have key : ∀ lt' x', ansIs b lt' x' → lt' = lt ∧ x' = x2.1 ∧ x2.2.2 = false := fun lt' x' h => by
      have hl : lt' = lt := by have := hI.symm.trans h.hd; simp only [Prod.mk.injEq] at this; exact this.1.symm
      subst hl
      have := h.read.symm.trans hR
      simp only [Prod.mk.injEq] at this
      obtain ⟨a0, a1, j⟩ := this
      exact ⟨rfl, a1, j.symm⟩
    refine AC.of_body (M := []) Tryz.func41 rfl (by kernel_rfl) (Nat.le_of_ble_eq_true rfl) ?_; simp only [Tryz.results41, Tryz.ntmps41]
    simp (dsimp := false) only [go_sem, ↓reduceIte, Nat.reduceEqDiff, Nat.reduceLT, Nat.reduceAdd, Nat.reduceSub, Nat.reduceMul, Nat.reduceLeDiff, reduceCtorEq, Int.reduceNeg, Int.reduceToNat, Int.reduceLT, Int.reduceLE, Int.reduceGE, Int.reduceGT, Int.reduceEq]
    refine ACs.pure hP ?_
    simp (dsimp := false) only [go_sem, ↓reduceIte, Nat.reduceEqDiff, Nat.reduceLT, Nat.reduceAdd, Nat.reduceSub, Nat.reduceMul, Nat.reduceLeDiff, reduceCtorEq, Int.reduceNeg, Int.reduceToNat, Int.reduceLT, Int.reduceLE, Int.reduceGE, Int.reduceGT, Int.reduceEq]
    refine ACs.of (CNew_own b 2 lt _ _ fun k hk => ?_)
    simp (dsimp := false) only [go_sem, ↓reduceIte, Nat.reduceEqDiff, Nat.reduceLT, Nat.reduceAdd, Nat.reduceSub, Nat.reduceMul, Nat.reduceLeDiff, reduceCtorEq, Int.reduceNeg, Int.reduceToNat, Int.reduceLT, Int.reduceLE, Int.reduceGE, Int.reduceGT, Int.reduceEq]
    refine ACs.of (CShort_own b lt (2, false) k _ _ (Own.set_same _ _ _) o0.1 o0.2 hn ?_)
    simp (dsimp := false) only [go_sem, ↓reduceIte, Nat.reduceEqDiff, Nat.reduceLT, Nat.reduceAdd, Nat.reduceSub, Nat.reduceMul, Nat.reduceLeDiff, reduceCtorEq, Int.reduceNeg, Int.reduceToNat, Int.reduceLT, Int.reduceLE, Int.reduceGE, Int.reduceGT, Int.reduceEq, e1]
    refine ACs.of (CBytes_own b x1.1 lt x1.2 k _ _ (Own.set_same _ _ _) o1.1 o1.2 hp2 (by omega) hn ?_)
    simp (dsimp := false) only [go_sem, ↓reduceIte, Nat.reduceEqDiff, Nat.reduceLT, Nat.reduceAdd, Nat.reduceSub, Nat.reduceMul, Nat.reduceLeDiff, reduceCtorEq, Int.reduceNeg, Int.reduceToNat, Int.reduceLT, Int.reduceLE, Int.reduceGE, Int.reduceGT, Int.reduceEq, e2]
    refine ACs.pure hE ?_
    simp (dsimp := false) only [go_sem, ↓reduceIte, Nat.reduceEqDiff, Nat.reduceLT, Nat.reduceAdd, Nat.reduceSub, Nat.reduceMul, Nat.reduceLeDiff, reduceCtorEq, Int.reduceNeg, Int.reduceToNat, Int.reduceLT, Int.reduceLE, Int.reduceGE, Int.reduceGT, Int.reduceEq]
    refine ACs.of (CBad_own b lt x2.2 k _ _ (Own.set_same _ _ _) ?_)
    rcases Bool.eq_false_or_eq_true x2.2.2 with hb | hb
    · simp (dsimp := false) only [go_sem, ↓reduceIte, Nat.reduceEqDiff, Nat.reduceLT, Nat.reduceAdd, Nat.reduceSub, Nat.reduceMul, Nat.reduceLeDiff, reduceCtorEq, Int.reduceNeg, Int.reduceToNat, Int.reduceLT, Int.reduceLE, Int.reduceGE, Int.reduceGT, Int.reduceEq, hb, Own.set_same]
      refine ⟨.tup [ansZ, .raw (.bool false), .raw (.int .i64 100)], _, Weak1.tup (Weak.one (pre := []) Weak1.nil), .inr ⟨fun lt' x' h => ?_, by rw [herr]⟩⟩
      rw [(key _ _ h).2.2] at hb
      cases hb
    by_cases hc : ansChk lt x2.1 = 0
    · simp (dsimp := false) only [go_sem, ↓reduceIte, Nat.reduceEqDiff, Nat.reduceLT, Nat.reduceAdd, Nat.reduceSub, Nat.reduceMul, Nat.reduceLeDiff, reduceCtorEq, Int.reduceNeg, Int.reduceToNat, Int.reduceLT, Int.reduceLE, Int.reduceGE, Int.reduceGT, Int.reduceEq, hb, hc]
      refine ACs.pure (Equal_pure _ b) ?_
      by_cases hq : ansB lt x2.1 = b
      · simp (dsimp := false) only [go_sem, ↓reduceIte, Nat.reduceEqDiff, Nat.reduceLT, Nat.reduceAdd, Nat.reduceSub, Nat.reduceMul, Nat.reduceLeDiff, reduceCtorEq, Int.reduceNeg, Int.reduceToNat, Int.reduceLT, Int.reduceLE, Int.reduceGE, Int.reduceGT, Int.reduceEq, hq, Own.set_same]
        exact ⟨_, _, Weak1.refl _ _, .inl ⟨_, _, ⟨hc, hq⟩, rfl⟩⟩
      · simp (dsimp := false) only [go_sem, ↓reduceIte, Nat.reduceEqDiff, Nat.reduceLT, Nat.reduceAdd, Nat.reduceSub, Nat.reduceMul, Nat.reduceLeDiff, reduceCtorEq, Int.reduceNeg, Int.reduceToNat, Int.reduceLT, Int.reduceLE, Int.reduceGE, Int.reduceGT, Int.reduceEq, hq, Own.set_same]
        refine ⟨.tup [ansZ, .raw (.bool false), .raw (.int .i64 100)], _, Weak1.tup (Weak.one (pre := []) Weak1.nil), .inr ⟨fun lt' x' h => ?_, by rw [herr]⟩⟩
        obtain ⟨rfl, rfl, _⟩ := key _ _ h
        exact hq h.2
    · simp (dsimp := false) only [go_sem, ↓reduceIte, Nat.reduceEqDiff, Nat.reduceLT, Nat.reduceAdd, Nat.reduceSub, Nat.reduceMul, Nat.reduceLeDiff, reduceCtorEq, Int.reduceNeg, Int.reduceToNat, Int.reduceLT, Int.reduceLE, Int.reduceGE, Int.reduceGT, Int.reduceEq, hb, hc, Own.set_same]
      refine ⟨.tup [ansZ, .raw (.bool false), .raw (.int .i64 100)], _, Weak1.tup (Weak.one (pre := []) Weak1.nil), .inr ⟨fun lt' x' h => ?_, by rw [herr]⟩⟩
      obtain ⟨rfl, rfl, _⟩ := key _ _ h
      exact hc (ansOk_chk h.1)
theorem ap_weak {own : Own} {a b c d : AV} : Weak1 own (.st [a, b, c, d, .raw (.slice none 0 0), .raw (.slice none 0 0)]) own (.st [a, b, c, d, .lst 1 [], .lst 1 []]) :=
  Weak1.trans (Weak1.st (Weak.one (pre := [a, b, c, d]) (post := [.raw (.slice none 0 0)]) (Weak1.nil (wd := 1)))) (Weak1.st (Weak.one (pre := [a, b, c, d, .lst 1 []]) (post := []) (Weak1.nil (wd := 1))))
theorem awake10_pure : PC Tryz.prog 26 [] (.raw (.bool true)) := by
  refine PC.of_ac ?_
  have h1 := mutEncode_pure true 1 0 0
  have h2 := apEncode_pure false true 0 ⟨#[82]⟩ [] [] (by decide) (by decide) (by decide)
  have e1 : mutE true 1 0 0 = .tup [.lst 1 ([1, 1, 0, 0, 0, 0, 0, 0, 0, 0, 0, 0, 0, 0, 0, 0].map byteA), .raw (.int .i64 0)] := by
    have c1 : mutChk true 1 0 0 = 0 := by decide
    have c2 : mutB true 1 0 0 = [1, 1, 0, 0, 0, 0, 0, 0, 0, 0, 0, 0, 0, 0, 0, 0] := by decide
    rw [mutE, c1, if_pos rfl, c2]
  have e2 : apE false true 0 ⟨#[82]⟩ [] [] = .tup [.lst 1 ([4, 8, 0, 82, 0, 0, 0].map byteA), .raw (.int .i64 0)] := by
    have c1 : apChk false true 0 ⟨#[82]⟩ [] [] = 0 := by decide
    have c2 : apB false true 0 ⟨#[82]⟩ [] [] = [4, 8, 0, 82, 0, 0, 0] := by decide
    rw [apE, c1, if_pos rfl, c2]
  rw [e1] at h1
  rw [e2] at h2
  unfold mutA at h1
  unfold apA at h2
  refine AC.of_body (M := []) Tryz.func26 rfl (by kernel_rfl) (Nat.le_of_ble_eq_true rfl) ?_; simp only [Tryz.results26, Tryz.ntmps26]
  simp (dsimp := false) only [go_sem, ↓reduceIte, Nat.reduceEqDiff, Nat.reduceLT, Nat.reduceAdd, Nat.reduceSub, Nat.reduceMul, Nat.reduceLeDiff, reduceCtorEq, Int.reduceNeg, Int.reduceToNat, Int.reduceLT, Int.reduceLE, Int.reduceGE, Int.reduceGT, Int.reduceEq]
  refine ACs.pure h1 ?_
  simp (dsimp := false) only [go_sem, ↓reduceIte, Nat.reduceEqDiff, Nat.reduceLT, Nat.reduceAdd, Nat.reduceSub, Nat.reduceMul, Nat.reduceLeDiff, reduceCtorEq, Int.reduceNeg, Int.reduceToNat, Int.reduceLT, Int.reduceLE, Int.reduceGE, Int.reduceGT, Int.reduceEq]
  refine ACs.arg (pre := []) (post := []) ap_weak ?_
  refine ACs.pure h2 ?_
  have hb : byteA 1 = .raw (.int .u8 1) := rfl
  have hb' : byteA 8 = .raw (.int .u8 8) := rfl
  simp (dsimp := false) only [go_sem, ↓reduceIte, Nat.reduceEqDiff, Nat.reduceLT, Nat.reduceAdd, Nat.reduceSub, Nat.reduceMul, Nat.reduceLeDiff, reduceCtorEq, Int.reduceNeg, Int.reduceToNat, Int.reduceLT, Int.reduceLE, Int.reduceGE, Int.reduceGT, Int.reduceEq, hb, hb']
theorem mutB_length (lt : Bool) (ck ti tm : Int) : (mutB lt ck ti tm).length ≤ 20 := by
  have h := padB_length ([u8 (flagZ lt)] ++ mutF lt ck ti tm)
  rw [List.length_append, mutF_length] at h
  unfold mutB
  simp only [List.length_singleton] at h
  omega
theorem ansB_length (lt : Bool) (x : List UInt8) : (ansB lt x).length = x.length + 4 := by
  rw [ansB, List.length_append, hdB_length, ansF_length]
  omega
end Go.Proofs.YtghnigbihllnmaaGreat.Fn
