/- The law on answers of a service. -/
import Derived.Test.YtaokfnfaipdpdaaFn45
import Derived.Test.YtaokfnfaipdpdaaFn44
import Derived.Test.YtaokfnfaipdpdaaFn1
set_option linter.unusedVariables false
set_option linter.unusedSimpArgs false
namespace Go.Proofs.Ytaokfnfaipdpdaa.Fn
open Go Hl Sp Ty
set_option maxRecDepth 100000
set_option maxHeartbeats 8000000 in
theorem ansDecode_pn (b : List UInt8) (hn : b.length ≤ 140737488355000) : PN Try.prog 43 [.lst 1 (b.map byteA)] (ansDec b) := by
  refine PN.post ?_
  obtain ⟨⟨lt, e⟩, hI⟩ : ∃ x, hdIs b [8] = x := ⟨_, rfl⟩
  have hP := hdIs_pure b [8] hn (by simp)
  rw [hI] at hP
  simp only [List.map_cons, List.map_nil, iA] at hP
  by_cases he : e = 0
  rotate_left
  · refine AC.of_body (M := []) Try.func43 rfl (by kernel_rfl) (Nat.le_of_ble_eq_true rfl) ?_; simp only [Try.results43, Try.ntmps43]
    simp (dsimp := false) only [go_sem, ↓reduceIte, Nat.reduceEqDiff, Nat.reduceLT, Nat.reduceAdd, Nat.reduceSub, Nat.reduceMul, Nat.reduceLeDiff, reduceCtorEq, Int.reduceNeg, Int.reduceToNat, Int.reduceLT, Int.reduceLE, Int.reduceGE, Int.reduceGT, Int.reduceEq]
    refine ACs.pure hP ?_
    simp (dsimp := false) only [go_sem, ↓reduceIte, Nat.reduceEqDiff, Nat.reduceLT, Nat.reduceAdd, Nat.reduceSub, Nat.reduceMul, Nat.reduceLeDiff, reduceCtorEq, Int.reduceNeg, Int.reduceToNat, Int.reduceLT, Int.reduceLE, Int.reduceGE, Int.reduceGT, Int.reduceEq, he]
    refine ⟨.tup [ansZ, .raw (.bool false), .raw (.int .i64 e)], _, Weak1.tup (Weak.one (pre := []) Weak1.nil), .inr ⟨fun lt' x' h => ?_, by rw [ansErr, hI, if_neg he]⟩⟩
    have := hI.symm.trans h.hd
    simp only [Prod.mk.injEq] at this
    exact he this.2
  · subst he
    have herr : ansErr b = 100 := by rw [ansErr, hI]; rfl
    have o0 : 0 ≤ ((2 : Int), false).1 ∧ ((2 : Int), false).1 ≤ b.length := ⟨by decide, hdIs_len hI⟩
    obtain ⟨x1, e1⟩ : ∃ x, cNum b 2 lt (2, false) = x := ⟨_, rfl⟩
    have o1 : 0 ≤ x1.2.1 ∧ x1.2.1 ≤ b.length := by rw [← e1]; exact cNum_ok o0.1 o0.2
    obtain ⟨x2, e2⟩ : ∃ x, cByt b x1.1 x1.2 = x := ⟨_, rfl⟩
    have hp2 : 0 ≤ x1.1 := by rw [← e1]; exact cNum_nn _ _ _ _
    have hq2 : x1.1 ≤ 65535 := by rw [← e1]; exact cNum_le _ _ _ _ (by decide)
    have o2 : 0 ≤ x2.2.1 ∧ x2.2.1 ≤ b.length := by rw [← e2]; exact cByt_ok o1.1 o1.2 hp2
    have zl2 : x2.1.length ≤ 65535 := by rw [← e2]; exact cByt_le _ _ _ () (by omega)
    have hR : ansR b lt (2, false) = (x1.1, x2.1, x2.2.2) := by simp only [ansR, e1, e2]
    have hE := ansEncode_pure lt x2.1 (by omega)
    unfold ansA ansE at hE
    have key : ∀ lt' x', ansIs b lt' x' → lt' = lt ∧ x' = x2.1 ∧ x2.2.2 = false := fun lt' x' h => by
      have hl : lt' = lt := by have := hI.symm.trans h.hd; simp only [Prod.mk.injEq] at this; exact this.1.symm
      subst hl
      have := h.read.symm.trans hR
      simp only [Prod.mk.injEq] at this
      obtain ⟨a0, a1, j⟩ := this
      exact ⟨rfl, a1, j.symm⟩
    refine AC.of_body (M := []) Try.func43 rfl (by kernel_rfl) (Nat.le_of_ble_eq_true rfl) ?_; simp only [Try.results43, Try.ntmps43]
    simp (dsimp := false) only [go_sem, ↓reduceIte, Nat.reduceEqDiff, Nat.reduceLT, Nat.reduceAdd, Nat.reduceSub, Nat.reduceMul, Nat.reduceLeDiff, reduceCtorEq, Int.reduceNeg, Int.reduceToNat, Int.reduceLT, Int.reduceLE, Int.reduceGE, Int.reduceGT, Int.reduceEq]
    refine ACs.pure hP ?_
    simp (dsimp := false) only [go_sem, ↓reduceIte, Nat.reduceEqDiff, Nat.reduceLT, Nat.reduceAdd, Nat.reduceSub, Nat.reduceMul, Nat.reduceLeDiff, reduceCtorEq, Int.reduceNeg, Int.reduceToNat, Int.reduceLT, Int.reduceLE, Int.reduceGE, Int.reduceGT, Int.reduceEq]
    refine ACs.of (CNew_own b 2 lt _ _ fun k hk => ?_)
    simp (dsimp := false) only [go_sem, ↓reduceIte, Nat.reduceEqDiff, Nat.reduceLT, Nat.reduceAdd, Nat.reduceSub, Nat.reduceMul, Nat.reduceLeDiff, reduceCtorEq, Int.reduceNeg, Int.reduceToNat, Int.reduceLT, Int.reduceLE, Int.reduceGE, Int.reduceGT, Int.reduceEq]
    refine ACs.of (CShort_own b lt (2, false) k _ _ (Own.set_same _ _ _) o0.1 o0.2 hn ?_)
    simp (dsimp := false) only [go_sem, ↓reduceIte, Nat.reduceEqDiff, Nat.reduceLT, Nat.reduceAdd, Nat.reduceSub, Nat.reduceMul, Nat.reduceLeDiff, reduceCtorEq, Int.reduceNeg, Int.reduceToNat, Int.reduceLT, Int.reduceLE, Int.reduceGE, Int.reduceGT, Int.reduceEq, e1]
    refine ACs.of (CBytes_own b x1.1 lt x1.2 k _ _ (Own.set_same _ _ _) o1.1 o1.2 hp2 (by omega) hn ?_)
    simp (dsimp := false) only [go_sem, ↓reduceIte, Nat.reduceEqDiff, Nat.reduceLT, Nat.reduceAdd, Nat.reduceSub, Nat.reduceMul, Nat.reduceLeDiff, reduceCtorEq, Int.reduceNeg, Int.reduceToNat, Int.reduceLT, Int.reduceLE, Int.reduceGE, Int.reduceGT, Int.reduceEq, e2]
    refine ACs.pure hE ?_
    simp (dsimp := false) only [go_sem, ↓reduceIte, Nat.reduceEqDiff, Nat.reduceLT, Nat.reduceAdd, Nat.reduceSub, Nat.reduceMul, Nat.reduceLeDiff, reduceCtorEq, Int.reduceNeg, Int.reduceToNat, Int.reduceLT, Int.reduceLE, Int.reduceGE, Int.reduceGT, Int.reduceEq]
    refine ACs.of (CBad_own b lt x2.2 k _ _ (Own.set_same _ _ _) ?_)
    rcases Bool.eq_false_or_eq_true x2.2.2 with hb | hb
    · simp (dsimp := false) only [go_sem, ↓reduceIte, Nat.reduceEqDiff, Nat.reduceLT, Nat.reduceAdd, Nat.reduceSub, Nat.reduceMul, Nat.reduceLeDiff, reduceCtorEq, Int.reduceNeg, Int.reduceToNat, Int.reduceLT, Int.reduceLE, Int.reduceGE, Int.reduceGT, Int.reduceEq, hb, Own.set_same]
      refine ⟨.tup [ansZ, .raw (.bool false), .raw (.int .i64 100)], _, Weak1.tup (Weak.one (pre := []) Weak1.nil), .inr ⟨fun lt' x' h => ?_, by rw [herr]⟩⟩
      rw [(key _ _ h).2.2] at hb
      cases hb
    by_cases hc : ansChk lt x2.1 = 0
    · simp (dsimp := false) only [go_sem, ↓reduceIte, Nat.reduceEqDiff, Nat.reduceLT, Nat.reduceAdd, Nat.reduceSub, Nat.reduceMul, Nat.reduceLeDiff, reduceCtorEq, Int.reduceNeg, Int.reduceToNat, Int.reduceLT, Int.reduceLE, Int.reduceGE, Int.reduceGT, Int.reduceEq, hb, hc]
      refine ACs.pure (Equal_pure _ b) ?_
      by_cases hq : ansB lt x2.1 = b
      · simp (dsimp := false) only [go_sem, ↓reduceIte, Nat.reduceEqDiff, Nat.reduceLT, Nat.reduceAdd, Nat.reduceSub, Nat.reduceMul, Nat.reduceLeDiff, reduceCtorEq, Int.reduceNeg, Int.reduceToNat, Int.reduceLT, Int.reduceLE, Int.reduceGE, Int.reduceGT, Int.reduceEq, hq, Own.set_same]
        exact ⟨_, _, Weak1.refl _ _, .inl ⟨_, _, ⟨hc, hq⟩, rfl⟩⟩
      · simp (dsimp := false) only [go_sem, ↓reduceIte, Nat.reduceEqDiff, Nat.reduceLT, Nat.reduceAdd, Nat.reduceSub, Nat.reduceMul, Nat.reduceLeDiff, reduceCtorEq, Int.reduceNeg, Int.reduceToNat, Int.reduceLT, Int.reduceLE, Int.reduceGE, Int.reduceGT, Int.reduceEq, hq, Own.set_same]
        refine ⟨.tup [ansZ, .raw (.bool false), .raw (.int .i64 100)], _, Weak1.tup (Weak.one (pre := []) Weak1.nil), .inr ⟨fun lt' x' h => ?_, by rw [herr]⟩⟩
        obtain ⟨rfl, rfl, _⟩ := key _ _ h
        exact hq h.2
    · simp (dsimp := false) only [go_sem, ↓reduceIte, Nat.reduceEqDiff, Nat.reduceLT, Nat.reduceAdd, Nat.reduceSub, Nat.reduceMul, Nat.reduceLeDiff, reduceCtorEq, Int.reduceNeg, Int.reduceToNat, Int.reduceLT, Int.reduceLE, Int.reduceGE, Int.reduceGT, Int.reduceEq, hb, hc, Own.set_same]
      refine ⟨.tup [ansZ, .raw (.bool false), .raw (.int .i64 100)], _, Weak1.tup (Weak.one (pre := []) Weak1.nil), .inr ⟨fun lt' x' h => ?_, by rw [herr]⟩⟩
      obtain ⟨rfl, rfl, _⟩ := key _ _ h
      exact hc (ansOk_chk h.1)
theorem ap_weak {own : Own} {a b c d : AV} : Weak1 own (.st [a, b, c, d, .raw (.slice none 0 0), .raw (.slice none 0 0)]) own (.st [a, b, c, d, .lst 1 [], .lst 1 []]) :=
  Weak1.trans (Weak1.st (Weak.one (pre := [a, b, c, d]) (post := [.raw (.slice none 0 0)]) (Weak1.nil (wd := 1)))) (Weak1.st (Weak.one (pre := [a, b, c, d, .lst 1 []]) (post := []) (Weak1.nil (wd := 1))))
theorem awake10_pure : PC Try.prog 37 [] (.raw (.bool true)) := by
  refine PC.of_ac ?_
  have h1 := mutEncode_pure true 1 0 0
  have h2 := apEncode_pure false true 0 ⟨#[82]⟩ [] [] (by decide) (by decide) (by decide)
  have e1 : mutE true 1 0 0 = .tup [.lst 1 ([1, 1, 0, 0, 0, 0, 0, 0, 0, 0, 0, 0, 0, 0, 0, 0].map byteA), .raw (.int .i64 0)] := by
    have c1 : mutChk true 1 0 0 = 0 := by decide
    have c2 : mutB true 1 0 0 = [1, 1, 0, 0, 0, 0, 0, 0, 0, 0, 0, 0, 0, 0, 0, 0] := by decide
    rw [mutE, c1, if_pos rfl, c2]
  have e2 : apE false true 0 ⟨#[82]⟩ [] [] = .tup [.lst 1 ([4, 8, 0, 82, 0, 0, 0].map byteA), .raw (.int .i64 0)] := by
    have c1 : apChk false true 0 ⟨#[82]⟩ [] [] = 0 := by decide
    have c2 : apB false true 0 ⟨#[82]⟩ [] [] = [4, 8, 0, 82, 0, 0, 0] := by decide
    rw [apE, c1, if_pos rfl, c2]
  rw [e1] at h1
  rw [e2] at h2
  unfold mutA at h1
  unfold apA at h2
  refine AC.of_body (M := []) Try.func37 rfl (by kernel_rfl) (Nat.le_of_ble_eq_true rfl) ?_; simp only [Try.results37, Try.ntmps37]
  simp (dsimp := false) only [go_sem, ↓reduceIte, Nat.reduceEqDiff, Nat.reduceLT, Nat.reduceAdd, Nat.reduceSub, Nat.reduceMul, Nat.reduceLeDiff, reduceCtorEq, Int.reduceNeg, Int.reduceToNat, Int.reduceLT, Int.reduceLE, Int.reduceGE, Int.reduceGT, Int.reduceEq]
  refine ACs.pure h1 ?_
  simp (dsimp := false) only [go_sem, ↓reduceIte, Nat.reduceEqDiff, Nat.reduceLT, Nat.reduceAdd, Nat.reduceSub, Nat.reduceMul, Nat.reduceLeDiff, reduceCtorEq, Int.reduceNeg, Int.reduceToNat, Int.reduceLT, Int.reduceLE, Int.reduceGE, Int.reduceGT, Int.reduceEq]
  refine ACs.arg (pre := []) (post := []) ap_weak ?_
  refine ACs.pure h2 ?_
  have hb : byteA 1 = .raw (.int .u8 1) := rfl
  have hb' : byteA 8 = .raw (.int .u8 8) := rfl
  simp (dsimp := false) only [go_sem, ↓reduceIte, Nat.reduceEqDiff, Nat.reduceLT, Nat.reduceAdd, Nat.reduceSub, Nat.reduceMul, Nat.reduceLeDiff, reduceCtorEq, Int.reduceNeg, Int.reduceToNat, Int.reduceLT, Int.reduceLE, Int.reduceGE, Int.reduceGT, Int.reduceEq, hb, hb']
theorem mutB_length (lt : Bool) (ck ti tm : Int) : (mutB lt ck ti tm).length ≤ 20 := by
  have h := padB_length ([u8 (flagZ lt)] ++ mutF lt ck ti tm)
  rw [List.length_append, mutF_length] at h
  unfold mutB
  simp only [List.length_singleton] at h
  omega
theorem ansB_length (lt : Bool) (x : List UInt8) : (ansB lt x).length = x.length + 4 := by
  rw [ansB, List.length_append, hdB_length, ansF_length]
  omega
set_option maxHeartbeats 8000000 in
theorem AppAnswers_pc (ck ti tm a bb tick : Int) (sealed : List UInt8) (little : Bool) (size : Int) (ha : 0 ≤ a ∧ a ≤ 4294967295) (hb : 0 ≤ bb ∧ bb ≤ 4294967295) (ht : 0 ≤ tick ∧ tick ≤ 255) (hs : 0 ≤ size ∧ size ≤ 65535) :
    PC Try.prog 9 [.st [.raw (.int .i64 ck), .raw (.int .i64 ti), .raw (.int .i64 tm)], .raw (.int .u32 a), .raw (.int .u32 bb), .raw (.int .u8 tick), .lst 1 (sealed.map byteA), .raw (.bool little), .raw (.int .u16 size)] (.raw (.bool true)) := by
  refine PC.of_ac ?_
  have wa : IntKind.i64.wrap a = a := wrap_i64 (by omega) (by omega)
  have wb : IntKind.i64.wrap bb = bb := wrap_i64 (by omega) (by omega)
  have wt : IntKind.i64.wrap tick = tick := wrap_i64 (by omega) (by omega)
  have ws : IntKind.i64.wrap size = size := wrap_i64 (by omega) (by omega)
  refine AC.of_body (M := []) Try.func9 rfl (by kernel_rfl) (Nat.le_of_ble_eq_true rfl) ?_; simp only [Try.results9, Try.ntmps9]
  simp (dsimp := false) only [go_sem, ↓reduceIte, Nat.reduceEqDiff, Nat.reduceLT, Nat.reduceAdd, Nat.reduceSub, Nat.reduceMul, Nat.reduceLeDiff, reduceCtorEq, Int.reduceNeg, Int.reduceToNat, Int.reduceLT, Int.reduceLE, Int.reduceGE, Int.reduceGT, Int.reduceEq]
  refine ACs.pure awake10_pure ?_
  by_cases h1 : (sealed.length : Int) > 900
  · simp (dsimp := false) only [go_sem, ↓reduceIte, Nat.reduceEqDiff, Nat.reduceLT, Nat.reduceAdd, Nat.reduceSub, Nat.reduceMul, Nat.reduceLeDiff, reduceCtorEq, Int.reduceNeg, Int.reduceToNat, Int.reduceLT, Int.reduceLE, Int.reduceGE, Int.reduceGT, Int.reduceEq, h1]
  simp (dsimp := false) only [go_sem, ↓reduceIte, Nat.reduceEqDiff, Nat.reduceLT, Nat.reduceAdd, Nat.reduceSub, Nat.reduceMul, Nat.reduceLeDiff, reduceCtorEq, Int.reduceNeg, Int.reduceToNat, Int.reduceLT, Int.reduceLE, Int.reduceGE, Int.reduceGT, Int.reduceEq, h1]
  refine AW.loopJ (M := []) (X := Nat) (fun j => ⟨162, tmL [(1, .raw (.int .u32 a)), (2, .raw (.int .u32 bb)), (3, .raw (.int .u8 tick)), (4, .lst 1 (sealed.map byteA)), (5, .raw (.bool little)), (6, .raw (.int .u16 size)), (7, .ref (.st [.raw (.int .i64 ck), .raw (.int .i64 ti), .raw (.int .i64 tm)])), (15, .raw (.int .i64 j))], noOwn⟩)
    (fun j => j ≤ 2) (fun j => 2 - j) 0 (by decide) ?_ ?_
  · (refine Ghost.of ?_ (fun _ _ h => by cases h); (repeat' (first | exact all_nil | refine all_cons ?_ ?_)) <;> (first | (simp (dsimp := false) only [go_sem, ↓reduceIte, Nat.reduceEqDiff, Nat.reduceLT, Nat.reduceAdd, Nat.reduceSub, Nat.reduceMul, Nat.reduceLeDiff, reduceCtorEq, Int.reduceNeg, Int.reduceToNat, Int.reduceLT, Int.reduceLE, Int.reduceGE, Int.reduceGT, Int.reduceEq]; done) | (simp (dsimp := false) only [go_sem, ↓reduceIte, Nat.reduceEqDiff, Nat.reduceLT, Nat.reduceAdd, Nat.reduceSub, Nat.reduceMul, Nat.reduceLeDiff, reduceCtorEq, Int.reduceNeg, Int.reduceToNat, Int.reduceLT, Int.reduceLE, Int.reduceGE, Int.reduceGT, Int.reduceEq]; rfl)))
  intro j hj
  by_cases hj2 : (j : Int) < 2
  · have w1 : IntKind.i64.wrap ((j : Int) + 1) = ((j + 1 : Nat) : Int) := by rw [wrap_i64 (by omega) (by omega)]; omega
    obtain ⟨CK, TI, TM, hX⟩ : ∃ CK TI TM : Int, [AV.st [.raw (.int .i64 ck), .raw (.int .i64 ti), .raw (.int .i64 tm)], AV.st [.raw (.int .i64 a), .raw (.int .i64 (tick.tmod 201)), .raw (.int .i64 bb)]].getD j .any = AV.st [.raw (.int .i64 CK), .raw (.int .i64 TI), .raw (.int .i64 TM)] := by
      match j, (show j < 2 by omega) with
      | 0, _ => exact ⟨_, _, _, rfl⟩
      | 1, _ => exact ⟨_, _, _, rfl⟩
    have hE1 := mutEncode_pure little CK TI TM
    have hE2 := rmutEncode_pure little CK TI TM
    have hbl := mutB_length little CK TI TM
    have hdc : ∀ d, mutChk little CK TI TM = 0 → mutDec (mutB little CK TI TM) little d → d = .tup [mutA little CK TI TM, .raw (.int .i64 0)] := fun d h0 h => h.of ⟨h0, rfl⟩
    have hdc2 : ∀ d, mutChk little CK TI TM = 0 → mutDec (mutB little CK TI TM) (!little) d → d = .tup [mutZ, .raw (.int .i64 100)] := fun d h0 h => h.unique (.inr ⟨fun ck' ti' tm' h' => mutIs.not (lt := little) ⟨h0, rfl⟩ h', rfl⟩)
    unfold mutA mutE at hE1 hE2
    obtain ⟨B, hB⟩ : ∃ B, mutB little CK TI TM = B := ⟨_, rfl⟩
    rw [hB] at hE1 hE2 hbl hdc hdc2
    obtain ⟨E, hE⟩ : ∃ E, mutChk little CK TI TM = E := ⟨_, rfl⟩
    rw [hE] at hE1 hE2 hdc hdc2
    simp (dsimp := false) only [go_sem, ↓reduceIte, Nat.reduceEqDiff, Nat.reduceLT, Nat.reduceAdd, Nat.reduceSub, Nat.reduceMul, Nat.reduceLeDiff, reduceCtorEq, Int.reduceNeg, Int.reduceToNat, Int.reduceLT, Int.reduceLE, Int.reduceGE, Int.reduceGT, Int.reduceEq, hj2, wa, wb, wt, hX]
    (try refine ⟨by omega, ?_⟩)
    intro k1 hk1
    refine ACs.pure hE1 ?_
    simp (dsimp := false) only [go_sem, ↓reduceIte, Nat.reduceEqDiff, Nat.reduceLT, Nat.reduceAdd, Nat.reduceSub, Nat.reduceMul, Nat.reduceLeDiff, reduceCtorEq, Int.reduceNeg, Int.reduceToNat, Int.reduceLT, Int.reduceLE, Int.reduceGE, Int.reduceGT, Int.reduceEq]
    refine ACs.pure hE2 ?_
    by_cases h0 : E = 0
    · rw [if_pos h0]
      simp (dsimp := false) only [go_sem, ↓reduceIte, Nat.reduceEqDiff, Nat.reduceLT, Nat.reduceAdd, Nat.reduceSub, Nat.reduceMul, Nat.reduceLeDiff, reduceCtorEq, Int.reduceNeg, Int.reduceToNat, Int.reduceLT, Int.reduceLE, Int.reduceGE, Int.reduceGT, Int.reduceEq, h0, bytes_eq]
      refine ACs.pn (mutDecode_pn B little (by omega)) ?_
      intro d hd
      have hd := hdc d h0 hd
      subst hd
      unfold mutA
      simp (dsimp := false) only [go_sem, ↓reduceIte, Nat.reduceEqDiff, Nat.reduceLT, Nat.reduceAdd, Nat.reduceSub, Nat.reduceMul, Nat.reduceLeDiff, reduceCtorEq, Int.reduceNeg, Int.reduceToNat, Int.reduceLT, Int.reduceLE, Int.reduceGE, Int.reduceGT, Int.reduceEq]
      intro k2 hk2
      refine ACs.pn (mutDecode_pn B (!little) (by omega)) ?_
      intro d hd
      have hd := hdc2 d h0 hd
      subst hd
      unfold mutZ
      simp (dsimp := false) only [go_sem, ↓reduceIte, Nat.reduceEqDiff, Nat.reduceLT, Nat.reduceAdd, Nat.reduceSub, Nat.reduceMul, Nat.reduceLeDiff, reduceCtorEq, Int.reduceNeg, Int.reduceToNat, Int.reduceLT, Int.reduceLE, Int.reduceGE, Int.reduceGT, Int.reduceEq]
      intro k3 hk3
      have q1 := none_ne hk2
      have q2 := none_ne hk3
      rw [Own.set_ne _ _ q2] at hk3
      have q3 := none_ne hk3
      have a1 : ∀ (own : Own) o, (own.set k2 o) k1 = own k1 := fun own o => Own.set_ne _ _ (Ne.symm q1)
      have a2 : ∀ (own : Own) o, (own.set k1 o) k2 = own k2 := fun own o => Own.set_ne _ _ q1
      have a3 : ∀ (own : Own) o, (own.set k3 o) k2 = own k2 := fun own o => Own.set_ne _ _ (Ne.symm q2)
      have a4 : ∀ (own : Own) o, (own.set k3 o) k1 = own k1 := fun own o => Own.set_ne _ _ (Ne.symm q3)
      simp (dsimp := false) only [go_sem, ↓reduceIte, Nat.reduceEqDiff, Nat.reduceLT, Nat.reduceAdd, Nat.reduceSub, Nat.reduceMul, Nat.reduceLeDiff, reduceCtorEq, Int.reduceNeg, Int.reduceToNat, Int.reduceLT, Int.reduceLE, Int.reduceGE, Int.reduceGT, Int.reduceEq, a1, a2, a3, a4, w1]
      refine ⟨j + 1, by omega, ?_, by omega⟩
      (refine Ghost.of ?_ (fun _ _ h => by cases h); (repeat' (first | exact all_nil | refine all_cons ?_ ?_)) <;> (first | (simp (dsimp := false) only [go_sem, ↓reduceIte, Nat.reduceEqDiff, Nat.reduceLT, Nat.reduceAdd, Nat.reduceSub, Nat.reduceMul, Nat.reduceLeDiff, reduceCtorEq, Int.reduceNeg, Int.reduceToNat, Int.reduceLT, Int.reduceLE, Int.reduceGE, Int.reduceGT, Int.reduceEq]; done) | (simp (dsimp := false) only [go_sem, ↓reduceIte, Nat.reduceEqDiff, Nat.reduceLT, Nat.reduceAdd, Nat.reduceSub, Nat.reduceMul, Nat.reduceLeDiff, reduceCtorEq, Int.reduceNeg, Int.reduceToNat, Int.reduceLT, Int.reduceLE, Int.reduceGE, Int.reduceGT, Int.reduceEq]; rfl)))
    · rw [if_neg h0]
      have hbn : bytesOf [] = some [] := rfl
      simp (dsimp := false) only [go_sem, ↓reduceIte, Nat.reduceEqDiff, Nat.reduceLT, Nat.reduceAdd, Nat.reduceSub, Nat.reduceMul, Nat.reduceLeDiff, reduceCtorEq, Int.reduceNeg, Int.reduceToNat, Int.reduceLT, Int.reduceLE, Int.reduceGE, Int.reduceGT, Int.reduceEq, h0, bytes_eq, hbn, w1]
      refine ⟨j + 1, by omega, ?_, by omega⟩
      (refine Ghost.of ?_ (fun _ _ h => by cases h); (repeat' (first | exact all_nil | refine all_cons ?_ ?_)) <;> (first | (simp (dsimp := false) only [go_sem, ↓reduceIte, Nat.reduceEqDiff, Nat.reduceLT, Nat.reduceAdd, Nat.reduceSub, Nat.reduceMul, Nat.reduceLeDiff, reduceCtorEq, Int.reduceNeg, Int.reduceToNat, Int.reduceLT, Int.reduceLE, Int.reduceGE, Int.reduceGT, Int.reduceEq]; done) | (simp (dsimp := false) only [go_sem, ↓reduceIte, Nat.reduceEqDiff, Nat.reduceLT, Nat.reduceAdd, Nat.reduceSub, Nat.reduceMul, Nat.reduceLeDiff, reduceCtorEq, Int.reduceNeg, Int.reduceToNat, Int.reduceLT, Int.reduceLE, Int.reduceGE, Int.reduceGT, Int.reduceEq]; rfl)))
  · simp (dsimp := false) only [go_sem, ↓reduceIte, Nat.reduceEqDiff, Nat.reduceLT, Nat.reduceAdd, Nat.reduceSub, Nat.reduceMul, Nat.reduceLeDiff, reduceCtorEq, Int.reduceNeg, Int.reduceToNat, Int.reduceLT, Int.reduceLE, Int.reduceGE, Int.reduceGT, Int.reduceEq, hj2]
    refine AW.loopJ (M := []) (X := Nat) (fun q => ⟨162, tmL [(4, .lst 1 (sealed.map byteA)), (5, .raw (.bool little)), (6, .raw (.int .u16 size)), (25, .raw (.int .i64 q))], noOwn⟩)
      (fun q => q ≤ 2) (fun q => 2 - q) 0 (by decide) ?_ ?_
    · (refine Ghost.of ?_ (fun _ _ h => by cases h); (repeat' (first | exact all_nil | refine all_cons ?_ ?_)) <;> (first | (simp (dsimp := false) only [go_sem, ↓reduceIte, Nat.reduceEqDiff, Nat.reduceLT, Nat.reduceAdd, Nat.reduceSub, Nat.reduceMul, Nat.reduceLeDiff, reduceCtorEq, Int.reduceNeg, Int.reduceToNat, Int.reduceLT, Int.reduceLE, Int.reduceGE, Int.reduceGT, Int.reduceEq]; done) | (simp (dsimp := false) only [go_sem, ↓reduceIte, Nat.reduceEqDiff, Nat.reduceLT, Nat.reduceAdd, Nat.reduceSub, Nat.reduceMul, Nat.reduceLeDiff, reduceCtorEq, Int.reduceNeg, Int.reduceToNat, Int.reduceLT, Int.reduceLE, Int.reduceGE, Int.reduceGT, Int.reduceEq]; rfl)))
    intro q hq
    by_cases hq2 : (q : Int) < 2
    · have w1 : IntKind.i64.wrap ((q : Int) + 1) = ((q + 1 : Nat) : Int) := by rw [wrap_i64 (by omega) (by omega)]; omega
      obtain ⟨m, hm⟩ : ∃ m : Nat, 1010 + size.tmod 4 = m := ⟨(1010 + size.tmod 4).toNat, by rw [Int.tmod_eq_emod_of_nonneg hs.1]; omega⟩
      have hm' : m ≤ 1013 := by rw [Int.tmod_eq_emod_of_nonneg hs.1] at hm; omega
      have wm : IntKind.i64.wrap (m : Int) = m := wrap_i64 (by omega) (by omega)
      simp (dsimp := false) only [go_sem, ↓reduceIte, Nat.reduceEqDiff, Nat.reduceLT, Nat.reduceAdd, Nat.reduceSub, Nat.reduceMul, Nat.reduceLeDiff, reduceCtorEq, Int.reduceNeg, Int.reduceToNat, Int.reduceLT, Int.reduceLE, Int.reduceGE, Int.reduceGT, Int.reduceEq, hq2, ws, hm, wm]
      have hz : List.replicate m (AV.raw (.int .u8 0)) = (List.replicate m (0 : UInt8)).map byteA := zero_bytes m
      refine ⟨by omega, by omega, by omega, by omega, fun k hk => ?_⟩
      match q, (show q < 2 by omega) with
      | 0, _ =>
        have hE1 := ansEncode_pure little sealed (by omega)
        have hE2 := ransEncode_pure little sealed (by omega)
        have hbl := ansB_length little sealed
        have hxl : sealed.length ≤ 1013 := by omega
        have hdc : ∀ d, ansChk little sealed = 0 → ansDec (ansB little sealed) d → d = .tup [ansA little sealed, .raw (.bool little), .raw (.int .i64 0)] := fun d h0 h => h.of ⟨h0, rfl⟩
        unfold ansA ansE at hE1 hE2
        obtain ⟨B, hB⟩ : ∃ B, ansB little sealed = B := ⟨_, rfl⟩
        rw [hB] at hE1 hE2 hbl hdc
        obtain ⟨E, hE⟩ : ∃ E, ansChk little sealed = E := ⟨_, rfl⟩
        rw [hE] at hE1 hE2 hdc
        simp (dsimp := false) only [go_sem, ↓reduceIte, Nat.reduceEqDiff, Nat.reduceLT, Nat.reduceAdd, Nat.reduceSub, Nat.reduceMul, Nat.reduceLeDiff, reduceCtorEq, Int.reduceNeg, Int.reduceToNat, Int.reduceLT, Int.reduceLE, Int.reduceGE, Int.reduceGT, Int.reduceEq, hz]
        (try refine ⟨by omega, ?_⟩)
        refine ACs.pure hE1 ?_
        simp (dsimp := false) only [go_sem, ↓reduceIte, Nat.reduceEqDiff, Nat.reduceLT, Nat.reduceAdd, Nat.reduceSub, Nat.reduceMul, Nat.reduceLeDiff, reduceCtorEq, Int.reduceNeg, Int.reduceToNat, Int.reduceLT, Int.reduceLE, Int.reduceGE, Int.reduceGT, Int.reduceEq]
        refine ACs.pure hE2 ?_
        by_cases h0 : E = 0
        · rw [if_pos h0]
          simp (dsimp := false) only [go_sem, ↓reduceIte, Nat.reduceEqDiff, Nat.reduceLT, Nat.reduceAdd, Nat.reduceSub, Nat.reduceMul, Nat.reduceLeDiff, reduceCtorEq, Int.reduceNeg, Int.reduceToNat, Int.reduceLT, Int.reduceLE, Int.reduceGE, Int.reduceGT, Int.reduceEq, h0, bytes_eq]
          refine ACs.pn (ansDecode_pn B (by omega)) ?_
          intro d hd
          have hd := hdc d h0 hd
          subst hd
          unfold ansA
          simp (dsimp := false) only [go_sem, ↓reduceIte, Nat.reduceEqDiff, Nat.reduceLT, Nat.reduceAdd, Nat.reduceSub, Nat.reduceMul, Nat.reduceLeDiff, reduceCtorEq, Int.reduceNeg, Int.reduceToNat, Int.reduceLT, Int.reduceLE, Int.reduceGE, Int.reduceGT, Int.reduceEq, bytes_eq, w1]
          refine ⟨1, by omega, ?_, by omega⟩
          (refine Ghost.of ?_ (fun _ _ h => by cases h); (repeat' (first | exact all_nil | refine all_cons ?_ ?_)) <;> (first | (simp (dsimp := false) only [go_sem, ↓reduceIte, Nat.reduceEqDiff, Nat.reduceLT, Nat.reduceAdd, Nat.reduceSub, Nat.reduceMul, Nat.reduceLeDiff, reduceCtorEq, Int.reduceNeg, Int.reduceToNat, Int.reduceLT, Int.reduceLE, Int.reduceGE, Int.reduceGT, Int.reduceEq]; done) | (simp (dsimp := false) only [go_sem, ↓reduceIte, Nat.reduceEqDiff, Nat.reduceLT, Nat.reduceAdd, Nat.reduceSub, Nat.reduceMul, Nat.reduceLeDiff, reduceCtorEq, Int.reduceNeg, Int.reduceToNat, Int.reduceLT, Int.reduceLE, Int.reduceGE, Int.reduceGT, Int.reduceEq]; rfl)))
        · rw [if_neg h0]
          have hbn : bytesOf [] = some [] := rfl
          simp (dsimp := false) only [go_sem, ↓reduceIte, Nat.reduceEqDiff, Nat.reduceLT, Nat.reduceAdd, Nat.reduceSub, Nat.reduceMul, Nat.reduceLeDiff, reduceCtorEq, Int.reduceNeg, Int.reduceToNat, Int.reduceLT, Int.reduceLE, Int.reduceGE, Int.reduceGT, Int.reduceEq, h0, bytes_eq, hbn, w1]
          refine ⟨1, by omega, ?_, by omega⟩
          (refine Ghost.of ?_ (fun _ _ h => by cases h); (repeat' (first | exact all_nil | refine all_cons ?_ ?_)) <;> (first | (simp (dsimp := false) only [go_sem, ↓reduceIte, Nat.reduceEqDiff, Nat.reduceLT, Nat.reduceAdd, Nat.reduceSub, Nat.reduceMul, Nat.reduceLeDiff, reduceCtorEq, Int.reduceNeg, Int.reduceToNat, Int.reduceLT, Int.reduceLE, Int.reduceGE, Int.reduceGT, Int.reduceEq]; done) | (simp (dsimp := false) only [go_sem, ↓reduceIte, Nat.reduceEqDiff, Nat.reduceLT, Nat.reduceAdd, Nat.reduceSub, Nat.reduceMul, Nat.reduceLeDiff, reduceCtorEq, Int.reduceNeg, Int.reduceToNat, Int.reduceLT, Int.reduceLE, Int.reduceGE, Int.reduceGT, Int.reduceEq]; rfl)))
      | 1, _ =>
        have hE1 := ansEncode_pure little (List.replicate m (0 : UInt8)) (by simp; omega)
        have hE2 := ransEncode_pure little (List.replicate m (0 : UInt8)) (by simp; omega)
        have hbl := ansB_length little (List.replicate m (0 : UInt8))
        have hxl : (List.replicate m (0 : UInt8)).length ≤ 1013 := by simp; omega
        have hdc : ∀ d, ansChk little (List.replicate m (0 : UInt8)) = 0 → ansDec (ansB little (List.replicate m (0 : UInt8))) d → d = .tup [ansA little (List.replicate m (0 : UInt8)), .raw (.bool little), .raw (.int .i64 0)] := fun d h0 h => h.of ⟨h0, rfl⟩
        unfold ansA ansE at hE1 hE2
        obtain ⟨B, hB⟩ : ∃ B, ansB little (List.replicate m (0 : UInt8)) = B := ⟨_, rfl⟩
        rw [hB] at hE1 hE2 hbl hdc
        obtain ⟨E, hE⟩ : ∃ E, ansChk little (List.replicate m (0 : UInt8)) = E := ⟨_, rfl⟩
        rw [hE] at hE1 hE2 hdc
        simp (dsimp := false) only [go_sem, ↓reduceIte, Nat.reduceEqDiff, Nat.reduceLT, Nat.reduceAdd, Nat.reduceSub, Nat.reduceMul, Nat.reduceLeDiff, reduceCtorEq, Int.reduceNeg, Int.reduceToNat, Int.reduceLT, Int.reduceLE, Int.reduceGE, Int.reduceGT, Int.reduceEq, hz]
        (try refine ⟨by omega, ?_⟩)
        refine ACs.arg (pre := []) (Weak1.share (l := (List.replicate m (0 : UInt8)).map byteA) (Own.set_same _ _ _) (Lies.bytes _) (by simp) (by omega) (by omega)) ?_
        refine ACs.pure hE1 ?_
        simp (dsimp := false) only [go_sem, ↓reduceIte, Nat.reduceEqDiff, Nat.reduceLT, Nat.reduceAdd, Nat.reduceSub, Nat.reduceMul, Nat.reduceLeDiff, reduceCtorEq, Int.reduceNeg, Int.reduceToNat, Int.reduceLT, Int.reduceLE, Int.reduceGE, Int.reduceGT, Int.reduceEq]
        refine ACs.arg (pre := []) (Weak1.share (l := (List.replicate m (0 : UInt8)).map byteA) (Own.set_same _ _ _) (Lies.bytes _) (by simp) (by omega) (by omega)) ?_
        refine ACs.pure hE2 ?_
        by_cases h0 : E = 0
        · rw [if_pos h0]
          simp (dsimp := false) only [go_sem, ↓reduceIte, Nat.reduceEqDiff, Nat.reduceLT, Nat.reduceAdd, Nat.reduceSub, Nat.reduceMul, Nat.reduceLeDiff, reduceCtorEq, Int.reduceNeg, Int.reduceToNat, Int.reduceLT, Int.reduceLE, Int.reduceGE, Int.reduceGT, Int.reduceEq, h0, bytes_eq]
          refine ACs.pn (ansDecode_pn B (by omega)) ?_
          intro d hd
          have hd := hdc d h0 hd
          subst hd
          unfold ansA
          have htk : List.take m (List.map byteA (List.replicate m (0 : UInt8))) = List.map byteA (List.replicate m (0 : UInt8)) := List.take_of_length_le (by simp)
          simp (dsimp := false) only [go_sem, ↓reduceIte, Nat.reduceEqDiff, Nat.reduceLT, Nat.reduceAdd, Nat.reduceSub, Nat.reduceMul, Nat.reduceLeDiff, reduceCtorEq, Int.reduceNeg, Int.reduceToNat, Int.reduceLT, Int.reduceLE, Int.reduceGE, Int.reduceGT, Int.reduceEq, bytes_eq, w1, flat_byte, htk]
          refine ⟨by simp, 2, by omega, ?_, by omega⟩
          (refine Ghost.of ?_ (fun _ _ h => by cases h); (repeat' (first | exact all_nil | refine all_cons ?_ ?_)) <;> (first | (simp (dsimp := false) only [go_sem, ↓reduceIte, Nat.reduceEqDiff, Nat.reduceLT, Nat.reduceAdd, Nat.reduceSub, Nat.reduceMul, Nat.reduceLeDiff, reduceCtorEq, Int.reduceNeg, Int.reduceToNat, Int.reduceLT, Int.reduceLE, Int.reduceGE, Int.reduceGT, Int.reduceEq]; done) | (simp (dsimp := false) only [go_sem, ↓reduceIte, Nat.reduceEqDiff, Nat.reduceLT, Nat.reduceAdd, Nat.reduceSub, Nat.reduceMul, Nat.reduceLeDiff, reduceCtorEq, Int.reduceNeg, Int.reduceToNat, Int.reduceLT, Int.reduceLE, Int.reduceGE, Int.reduceGT, Int.reduceEq]; rfl)))
        · rw [if_neg h0]
          have hbn : bytesOf [] = some [] := rfl
          simp (dsimp := false) only [go_sem, ↓reduceIte, Nat.reduceEqDiff, Nat.reduceLT, Nat.reduceAdd, Nat.reduceSub, Nat.reduceMul, Nat.reduceLeDiff, reduceCtorEq, Int.reduceNeg, Int.reduceToNat, Int.reduceLT, Int.reduceLE, Int.reduceGE, Int.reduceGT, Int.reduceEq, h0, bytes_eq, hbn, w1]
          refine ⟨2, by omega, ?_, by omega⟩
          (refine Ghost.of ?_ (fun _ _ h => by cases h); (repeat' (first | exact all_nil | refine all_cons ?_ ?_)) <;> (first | (simp (dsimp := false) only [go_sem, ↓reduceIte, Nat.reduceEqDiff, Nat.reduceLT, Nat.reduceAdd, Nat.reduceSub, Nat.reduceMul, Nat.reduceLeDiff, reduceCtorEq, Int.reduceNeg, Int.reduceToNat, Int.reduceLT, Int.reduceLE, Int.reduceGE, Int.reduceGT, Int.reduceEq]; done) | (simp (dsimp := false) only [go_sem, ↓reduceIte, Nat.reduceEqDiff, Nat.reduceLT, Nat.reduceAdd, Nat.reduceSub, Nat.reduceMul, Nat.reduceLeDiff, reduceCtorEq, Int.reduceNeg, Int.reduceToNat, Int.reduceLT, Int.reduceLE, Int.reduceGE, Int.reduceGT, Int.reduceEq]; rfl)))
    · simp (dsimp := false) only [go_sem, ↓reduceIte, Nat.reduceEqDiff, Nat.reduceLT, Nat.reduceAdd, Nat.reduceSub, Nat.reduceMul, Nat.reduceLeDiff, reduceCtorEq, Int.reduceNeg, Int.reduceToNat, Int.reduceLT, Int.reduceLE, Int.reduceGE, Int.reduceGT, Int.reduceEq, hq2]
end Go.Proofs.Ytaokfnfaipdpdaa.Fn
