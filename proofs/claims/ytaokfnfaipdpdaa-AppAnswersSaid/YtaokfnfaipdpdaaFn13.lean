/- Authenticators: their bytes. -/
import Derived.Test.YtaokfnfaipdpdaaHlC
import Derived.Test.YtaokfnfaipdpdaaSp1
import Derived.Test.YtaokfnfaipdpdaaTy
import Derived.Test.YtaokfnfaipdpdaaFn2
import Derived.Test.YtaokfnfaipdpdaaFn12
set_option linter.unusedVariables false
set_option linter.unusedSimpArgs false
namespace Go.Proofs.Ytaokfnfaipdpdaa.Fn
open Go Hl Sp Ty
set_option maxRecDepth 100000

def flagZ (little : Bool) : Int := if little then 1 else 0
theorem Flag_pure (little : Bool) : PC Try.prog 92 [.raw (.bool little)] (.raw (.int .i64 (flagZ little))) := by
  refine PC.of_ac ?_
  refine AC.of_body (M := []) Try.func92 rfl (by kernel_rfl) (Nat.le_of_ble_eq_true rfl) ?_; simp only [Try.results92, Try.ntmps92]
  cases little
  · simp (dsimp := false) only [go_sem, ↓reduceIte, Nat.reduceEqDiff, Nat.reduceLT, Nat.reduceAdd, Nat.reduceSub, Nat.reduceMul, Nat.reduceLeDiff, reduceCtorEq, Int.reduceNeg, Int.reduceToNat, Int.reduceLT, Int.reduceLE, Int.reduceGE, Int.reduceGT, Int.reduceEq]; rfl
  · simp (dsimp := false) only [go_sem, ↓reduceIte, Nat.reduceEqDiff, Nat.reduceLT, Nat.reduceAdd, Nat.reduceSub, Nat.reduceMul, Nat.reduceLeDiff, reduceCtorEq, Int.reduceNeg, Int.reduceToNat, Int.reduceLT, Int.reduceLE, Int.reduceGE, Int.reduceGT, Int.reduceEq]; rfl
theorem rPutOrder_pure (b : List UInt8) (little : Bool) (hn : b.length ≤ 140737488355000) : PC Try.prog 69 [.lst 1 (b.map byteA), .raw (.bool little)] (.lst 1 ((b ++ [u8 (flagZ little)]).map byteA)) := by
  refine PC.of_ac ?_
  refine AC.of_body (M := []) Try.func69 rfl (by kernel_rfl) (Nat.le_of_ble_eq_true rfl) ?_; simp only [Try.results69, Try.ntmps69]
  cases little
  · simp (dsimp := false) only [go_sem, ↓reduceIte, Nat.reduceEqDiff, Nat.reduceLT, Nat.reduceAdd, Nat.reduceSub, Nat.reduceMul, Nat.reduceLeDiff, reduceCtorEq, Int.reduceNeg, Int.reduceToNat, Int.reduceLT, Int.reduceLE, Int.reduceGE, Int.reduceGT, Int.reduceEq]
    exact ACs.pure (rPutOctet_pure b 0 hn) (by simp (dsimp := false) only [go_sem, ↓reduceIte, Nat.reduceEqDiff, Nat.reduceLT, Nat.reduceAdd, Nat.reduceSub, Nat.reduceMul, Nat.reduceLeDiff, reduceCtorEq, Int.reduceNeg, Int.reduceToNat, Int.reduceLT, Int.reduceLE, Int.reduceGE, Int.reduceGT, Int.reduceEq]; rfl)
  · simp (dsimp := false) only [go_sem, ↓reduceIte, Nat.reduceEqDiff, Nat.reduceLT, Nat.reduceAdd, Nat.reduceSub, Nat.reduceMul, Nat.reduceLeDiff, reduceCtorEq, Int.reduceNeg, Int.reduceToNat, Int.reduceLT, Int.reduceLE, Int.reduceGE, Int.reduceGT, Int.reduceEq]
    exact ACs.pure (rPutOctet_pure b 1 hn) (by simp (dsimp := false) only [go_sem, ↓reduceIte, Nat.reduceEqDiff, Nat.reduceLT, Nat.reduceAdd, Nat.reduceSub, Nat.reduceMul, Nat.reduceLeDiff, reduceCtorEq, Int.reduceNeg, Int.reduceToNat, Int.reduceLT, Int.reduceLE, Int.reduceGE, Int.reduceGT, Int.reduceEq]; rfl)

def authPre (n i r : ByteArray) (c t m : Int) (little : Bool) : List UInt8 := [u8 (flagZ little)] ++ prinB n i r ++ numB c 4 little ++ [u8 t] ++ numB m 4 little
def padB (b : List UInt8) : List UInt8 := b ++ List.replicate (padN b.length) 0
def authB (n i r : ByteArray) (c t m : Int) (little : Bool) : List UInt8 := padB (authPre n i r c t m little)
/-- What Encode answers. -/
def authE (n i r : ByteArray) (c t m : Int) (little : Bool) : AV := .tup [.lst 1 ((if authChk n i r c t m = 0 then authB n i r c t m little else []).map byteA), .raw (.int .i64 (authChk n i r c t m))]
theorem prinB_length (n i r : ByteArray) : (prinB n i r).length = n.size + i.size + r.size + 3 := by
  simp only [prinB, List.length_append, textB_length]; omega
theorem authPre_length (n i r : ByteArray) (c t m : Int) (little : Bool) : (authPre n i r c t m little).length = n.size + i.size + r.size + 13 := by
  simp only [authPre, List.length_append, prinB_length, numB_length, List.length_singleton]; omega

set_option maxHeartbeats 4000000 in
theorem authEncode_pure (n i r : ByteArray) (c t m : Int) (little : Bool) (hn : n.size ≤ 100000) (hi : i.size ≤ 100000) (hr : r.size ≤ 100000) :
    PC Try.prog 66 [authA n i r c t m, .raw (.bool little)] (authE n i r c t m little) := by
  refine PC.post ?_
  have hck := authCheck_pure n i r c t m (by omega) (by omega) (by omega)
  obtain ⟨b1, e1⟩ : ∃ b, ([] : List UInt8) ++ [u8 (flagZ little)] = b := ⟨_, rfl⟩
  obtain ⟨b2, e2⟩ : ∃ b, b1 ++ prinB n i r = b := ⟨_, rfl⟩
  obtain ⟨b3, e3⟩ : ∃ b, b2 ++ numB c 4 little = b := ⟨_, rfl⟩
  obtain ⟨b4, e4⟩ : ∃ b, b3 ++ [u8 t] = b := ⟨_, rfl⟩
  obtain ⟨b5, e5⟩ : ∃ b, b4 ++ numB m 4 little = b := ⟨_, rfl⟩
  obtain ⟨b6, e6⟩ : ∃ b, b5 ++ List.replicate (padN b5.length) 0 = b := ⟨_, rfl⟩
  have l1 : b1.length = 1 := by rw [← e1]; rfl
  have l2 : b2.length = 1 + (n.size + i.size + r.size + 3) := by rw [← e2, List.length_append, prinB_length, l1]
  have l3 : b3.length = b2.length + 4 := by rw [← e3, List.length_append, numB_length]
  have l4 : b4.length = b3.length + 1 := by rw [← e4, List.length_append]; rfl
  have l5 : b5.length = b4.length + 4 := by rw [← e5, List.length_append, numB_length]
  have hfin : authB n i r c t m little = b6 := by rw [authB, padB, ← e6, ← e5, ← e4, ← e3, ← e2, ← e1]; rfl
  have p1 := PutOctet_pure [] (flagZ little) (by simp)
  have p2 := PutPrincipal_pure b1 n i r (by omega)
  have p3 := PutNumber_pure b2 c little (by omega)
  have p4 := PutOctet_pure b3 t (by omega)
  have p5 := PutNumber_pure b4 m little (by omega)
  have p6 := Pad_pure b5 (by omega)
  rw [e1] at p1; rw [e2] at p2; rw [e3] at p3; rw [e4] at p4; rw [e5] at p5; rw [e6] at p6
  unfold authA at hck ⊢
  refine AC.of_body (M := []) Try.func66 rfl (by kernel_rfl) (Nat.le_of_ble_eq_true rfl) ?_; simp only [Try.results66, Try.ntmps66]
  simp (dsimp := false) only [go_sem, ↓reduceIte, Nat.reduceEqDiff, Nat.reduceLT, Nat.reduceAdd, Nat.reduceSub, Nat.reduceMul, Nat.reduceLeDiff, reduceCtorEq, Int.reduceNeg, Int.reduceToNat, Int.reduceLT, Int.reduceLE, Int.reduceGE, Int.reduceGT, Int.reduceEq]
  refine ACs.pure hck ?_
  by_cases h0 : authChk n i r c t m = 0
  · simp (dsimp := false) only [go_sem, ↓reduceIte, Nat.reduceEqDiff, Nat.reduceLT, Nat.reduceAdd, Nat.reduceSub, Nat.reduceMul, Nat.reduceLeDiff, reduceCtorEq, Int.reduceNeg, Int.reduceToNat, Int.reduceLT, Int.reduceLE, Int.reduceGE, Int.reduceGT, Int.reduceEq, h0]
    refine AW.draw (M := []) [.v, .e, .e, .v, .v, .e, .v] mixed (by kernel_rfl) ?_
    simp (dsimp := false) only [go_sem, ↓reduceIte, Nat.reduceEqDiff, Nat.reduceLT, Nat.reduceAdd, Nat.reduceSub, Nat.reduceMul, Nat.reduceLeDiff, reduceCtorEq, Int.reduceNeg, Int.reduceToNat, Int.reduceLT, Int.reduceLE, Int.reduceGE, Int.reduceGT, Int.reduceEq]
    refine ACs.pure (Flag_pure little) ?_
    simp (dsimp := false) only [go_sem, ↓reduceIte, Nat.reduceEqDiff, Nat.reduceLT, Nat.reduceAdd, Nat.reduceSub, Nat.reduceMul, Nat.reduceLeDiff, reduceCtorEq, Int.reduceNeg, Int.reduceToNat, Int.reduceLT, Int.reduceLE, Int.reduceGE, Int.reduceGT, Int.reduceEq]
    refine ACs.arg (pre := []) (Weak1.nil (wd := 1)) ?_
    refine ACs.pure p1 ?_
    simp (dsimp := false) only [go_sem, ↓reduceIte, Nat.reduceEqDiff, Nat.reduceLT, Nat.reduceAdd, Nat.reduceSub, Nat.reduceMul, Nat.reduceLeDiff, reduceCtorEq, Int.reduceNeg, Int.reduceToNat, Int.reduceLT, Int.reduceLE, Int.reduceGE, Int.reduceGT, Int.reduceEq]
    refine ACs.pure p2 ?_
    simp (dsimp := false) only [go_sem, ↓reduceIte, Nat.reduceEqDiff, Nat.reduceLT, Nat.reduceAdd, Nat.reduceSub, Nat.reduceMul, Nat.reduceLeDiff, reduceCtorEq, Int.reduceNeg, Int.reduceToNat, Int.reduceLT, Int.reduceLE, Int.reduceGE, Int.reduceGT, Int.reduceEq]
    refine ACs.pure p3 ?_
    simp (dsimp := false) only [go_sem, ↓reduceIte, Nat.reduceEqDiff, Nat.reduceLT, Nat.reduceAdd, Nat.reduceSub, Nat.reduceMul, Nat.reduceLeDiff, reduceCtorEq, Int.reduceNeg, Int.reduceToNat, Int.reduceLT, Int.reduceLE, Int.reduceGE, Int.reduceGT, Int.reduceEq]
    refine AW.draw (M := []) [.v, .v, .v, .e, .v, .v, .v, .e, .e, .v, .v] mixed (by kernel_rfl) ?_
    simp (dsimp := false) only [go_sem, ↓reduceIte, Nat.reduceEqDiff, Nat.reduceLT, Nat.reduceAdd, Nat.reduceSub, Nat.reduceMul, Nat.reduceLeDiff, reduceCtorEq, Int.reduceNeg, Int.reduceToNat, Int.reduceLT, Int.reduceLE, Int.reduceGE, Int.reduceGT, Int.reduceEq]
    refine ACs.pure p4 ?_
    simp (dsimp := false) only [go_sem, ↓reduceIte, Nat.reduceEqDiff, Nat.reduceLT, Nat.reduceAdd, Nat.reduceSub, Nat.reduceMul, Nat.reduceLeDiff, reduceCtorEq, Int.reduceNeg, Int.reduceToNat, Int.reduceLT, Int.reduceLE, Int.reduceGE, Int.reduceGT, Int.reduceEq]
    refine ACs.pure p5 ?_
    simp (dsimp := false) only [go_sem, ↓reduceIte, Nat.reduceEqDiff, Nat.reduceLT, Nat.reduceAdd, Nat.reduceSub, Nat.reduceMul, Nat.reduceLeDiff, reduceCtorEq, Int.reduceNeg, Int.reduceToNat, Int.reduceLT, Int.reduceLE, Int.reduceGE, Int.reduceGT, Int.reduceEq]
    refine ACs.pure p6 ?_
    simp (dsimp := false) only [go_sem, ↓reduceIte, Nat.reduceEqDiff, Nat.reduceLT, Nat.reduceAdd, Nat.reduceSub, Nat.reduceMul, Nat.reduceLeDiff, reduceCtorEq, Int.reduceNeg, Int.reduceToNat, Int.reduceLT, Int.reduceLE, Int.reduceGE, Int.reduceGT, Int.reduceEq]
    refine ⟨noOwn, ?_⟩
    rw [authE, h0, if_pos rfl, hfin]
    exact Weak1.refl _ _
  · simp (dsimp := false) only [go_sem, ↓reduceIte, Nat.reduceEqDiff, Nat.reduceLT, Nat.reduceAdd, Nat.reduceSub, Nat.reduceMul, Nat.reduceLeDiff, reduceCtorEq, Int.reduceNeg, Int.reduceToNat, Int.reduceLT, Int.reduceLE, Int.reduceGE, Int.reduceGT, Int.reduceEq, h0]
    refine ⟨noOwn, ?_⟩
    rw [authE, if_neg h0]
    exact Weak1.nil2
set_option maxHeartbeats 4000000 in
theorem rauthEncode_pure (n i r : ByteArray) (c t m : Int) (little : Bool) (hn : n.size ≤ 100000) (hi : i.size ≤ 100000) (hr : r.size ≤ 100000) :
    PC Try.prog 15 [authA n i r c t m, .raw (.bool little)] (authE n i r c t m little) := by
  refine PC.post ?_
  have hck := rauthCheck_pure n i r c t m (by omega) (by omega) (by omega)
  obtain ⟨b1, e1⟩ : ∃ b, ([] : List UInt8) ++ [u8 (flagZ little)] = b := ⟨_, rfl⟩
  obtain ⟨b2, e2⟩ : ∃ b, b1 ++ prinB n i r = b := ⟨_, rfl⟩
  obtain ⟨b3, e3⟩ : ∃ b, b2 ++ numB c 4 little = b := ⟨_, rfl⟩
  obtain ⟨b4, e4⟩ : ∃ b, b3 ++ [u8 t] = b := ⟨_, rfl⟩
  obtain ⟨b5, e5⟩ : ∃ b, b4 ++ numB m 4 little = b := ⟨_, rfl⟩
  obtain ⟨b6, e6⟩ : ∃ b, b5 ++ List.replicate (padN b5.length) 0 = b := ⟨_, rfl⟩
  have l1 : b1.length = 1 := by rw [← e1]; rfl
  have l2 : b2.length = 1 + (n.size + i.size + r.size + 3) := by rw [← e2, List.length_append, prinB_length, l1]
  have l3 : b3.length = b2.length + 4 := by rw [← e3, List.length_append, numB_length]
  have l4 : b4.length = b3.length + 1 := by rw [← e4, List.length_append]; rfl
  have l5 : b5.length = b4.length + 4 := by rw [← e5, List.length_append, numB_length]
  have hfin : authB n i r c t m little = b6 := by rw [authB, padB, ← e6, ← e5, ← e4, ← e3, ← e2, ← e1]; rfl
  have p1 := rPutOrder_pure [] little (by simp)
  have p2 := rPutPrincipal_pure b1 n i r (by omega)
  have p3 := rPutNumber_pure b2 c little (by omega)
  have p4 := rPutOctet_pure b3 t (by omega)
  have p5 := rPutNumber_pure b4 m little (by omega)
  have p6 := rPad_pure b5 (by omega)
  rw [e1] at p1; rw [e2] at p2; rw [e3] at p3; rw [e4] at p4; rw [e5] at p5; rw [e6] at p6
  unfold authA at hck ⊢
  refine AC.of_body (M := []) Try.func15 rfl (by kernel_rfl) (Nat.le_of_ble_eq_true rfl) ?_; simp only [Try.results15, Try.ntmps15]
  simp (dsimp := false) only [go_sem, ↓reduceIte, Nat.reduceEqDiff, Nat.reduceLT, Nat.reduceAdd, Nat.reduceSub, Nat.reduceMul, Nat.reduceLeDiff, reduceCtorEq, Int.reduceNeg, Int.reduceToNat, Int.reduceLT, Int.reduceLE, Int.reduceGE, Int.reduceGT, Int.reduceEq]
  refine ACs.pure hck ?_
  by_cases h0 : authChk n i r c t m = 0
  · simp (dsimp := false) only [go_sem, ↓reduceIte, Nat.reduceEqDiff, Nat.reduceLT, Nat.reduceAdd, Nat.reduceSub, Nat.reduceMul, Nat.reduceLeDiff, reduceCtorEq, Int.reduceNeg, Int.reduceToNat, Int.reduceLT, Int.reduceLE, Int.reduceGE, Int.reduceGT, Int.reduceEq, h0]
    refine AW.draw (M := []) [.v, .e, .v, .v, .e, .v] mixed (by kernel_rfl) ?_
    simp (dsimp := false) only [go_sem, ↓reduceIte, Nat.reduceEqDiff, Nat.reduceLT, Nat.reduceAdd, Nat.reduceSub, Nat.reduceMul, Nat.reduceLeDiff, reduceCtorEq, Int.reduceNeg, Int.reduceToNat, Int.reduceLT, Int.reduceLE, Int.reduceGE, Int.reduceGT, Int.reduceEq]
    refine ACs.arg (pre := []) (Weak1.nil (wd := 1)) ?_
    refine ACs.pure p1 ?_
    simp (dsimp := false) only [go_sem, ↓reduceIte, Nat.reduceEqDiff, Nat.reduceLT, Nat.reduceAdd, Nat.reduceSub, Nat.reduceMul, Nat.reduceLeDiff, reduceCtorEq, Int.reduceNeg, Int.reduceToNat, Int.reduceLT, Int.reduceLE, Int.reduceGE, Int.reduceGT, Int.reduceEq]
    refine ACs.pure p2 ?_
    simp (dsimp := false) only [go_sem, ↓reduceIte, Nat.reduceEqDiff, Nat.reduceLT, Nat.reduceAdd, Nat.reduceSub, Nat.reduceMul, Nat.reduceLeDiff, reduceCtorEq, Int.reduceNeg, Int.reduceToNat, Int.reduceLT, Int.reduceLE, Int.reduceGE, Int.reduceGT, Int.reduceEq]
    refine ACs.pure p3 ?_
    simp (dsimp := false) only [go_sem, ↓reduceIte, Nat.reduceEqDiff, Nat.reduceLT, Nat.reduceAdd, Nat.reduceSub, Nat.reduceMul, Nat.reduceLeDiff, reduceCtorEq, Int.reduceNeg, Int.reduceToNat, Int.reduceLT, Int.reduceLE, Int.reduceGE, Int.reduceGT, Int.reduceEq]
    refine AW.draw (M := []) [.v, .v, .v, .e, .v, .v, .v, .e, .e, .v, .v] mixed (by kernel_rfl) ?_
    simp (dsimp := false) only [go_sem, ↓reduceIte, Nat.reduceEqDiff, Nat.reduceLT, Nat.reduceAdd, Nat.reduceSub, Nat.reduceMul, Nat.reduceLeDiff, reduceCtorEq, Int.reduceNeg, Int.reduceToNat, Int.reduceLT, Int.reduceLE, Int.reduceGE, Int.reduceGT, Int.reduceEq]
    refine ACs.pure p4 ?_
    simp (dsimp := false) only [go_sem, ↓reduceIte, Nat.reduceEqDiff, Nat.reduceLT, Nat.reduceAdd, Nat.reduceSub, Nat.reduceMul, Nat.reduceLeDiff, reduceCtorEq, Int.reduceNeg, Int.reduceToNat, Int.reduceLT, Int.reduceLE, Int.reduceGE, Int.reduceGT, Int.reduceEq]
    refine ACs.pure p5 ?_
    simp (dsimp := false) only [go_sem, ↓reduceIte, Nat.reduceEqDiff, Nat.reduceLT, Nat.reduceAdd, Nat.reduceSub, Nat.reduceMul, Nat.reduceLeDiff, reduceCtorEq, Int.reduceNeg, Int.reduceToNat, Int.reduceLT, Int.reduceLE, Int.reduceGE, Int.reduceGT, Int.reduceEq]
    refine ACs.pure p6 ?_
    simp (dsimp := false) only [go_sem, ↓reduceIte, Nat.reduceEqDiff, Nat.reduceLT, Nat.reduceAdd, Nat.reduceSub, Nat.reduceMul, Nat.reduceLeDiff, reduceCtorEq, Int.reduceNeg, Int.reduceToNat, Int.reduceLT, Int.reduceLE, Int.reduceGE, Int.reduceGT, Int.reduceEq]
    refine ⟨noOwn, ?_⟩
    rw [authE, h0, if_pos rfl, hfin]
    exact Weak1.refl _ _
  · simp (dsimp := false) only [go_sem, ↓reduceIte, Nat.reduceEqDiff, Nat.reduceLT, Nat.reduceAdd, Nat.reduceSub, Nat.reduceMul, Nat.reduceLeDiff, reduceCtorEq, Int.reduceNeg, Int.reduceToNat, Int.reduceLT, Int.reduceLE, Int.reduceGE, Int.reduceGT, Int.reduceEq, h0]
    refine ⟨noOwn, ?_⟩
    rw [authE, if_neg h0]
    exact Weak1.nil2

theorem awake7_pure : PC Try.prog 14 [] (.raw (.bool true)) := by
  refine PC.of_ac ?_
  have he := authEncode_pure ⟨#[97]⟩ ⟨#[98]⟩ ⟨#[99]⟩ 0 0 1 true (by decide) (by decide) (by decide)
  have e1 : authE ⟨#[97]⟩ ⟨#[98]⟩ ⟨#[99]⟩ 0 0 1 true = .tup [.lst 1 ([1, 97, 0, 98, 0, 99, 0, 0, 0, 0, 0, 0, 1, 0, 0, 0].map byteA), .raw (.int .i64 0)] := by
    have c1 : authChk ⟨#[97]⟩ ⟨#[98]⟩ ⟨#[99]⟩ 0 0 1 = 0 := by decide
    have c2 : authB ⟨#[97]⟩ ⟨#[98]⟩ ⟨#[99]⟩ 0 0 1 true = [1, 97, 0, 98, 0, 99, 0, 0, 0, 0, 0, 0, 1, 0, 0, 0] := by decide
    rw [authE, c1, if_pos rfl, c2]
  rw [e1] at he
  unfold authA at he
  refine AC.of_body (M := []) Try.func14 rfl (by kernel_rfl) (Nat.le_of_ble_eq_true rfl) ?_; simp only [Try.results14, Try.ntmps14]
  simp (dsimp := false) only [go_sem, ↓reduceIte, Nat.reduceEqDiff, Nat.reduceLT, Nat.reduceAdd, Nat.reduceSub, Nat.reduceMul, Nat.reduceLeDiff, reduceCtorEq, Int.reduceNeg, Int.reduceToNat, Int.reduceLT, Int.reduceLE, Int.reduceGE, Int.reduceGT, Int.reduceEq]
  refine ACs.pure he ?_
  have hb : byteA 1 = .raw (.int .u8 1) := rfl
  simp (dsimp := false) only [go_sem, ↓reduceIte, Nat.reduceEqDiff, Nat.reduceLT, Nat.reduceAdd, Nat.reduceSub, Nat.reduceMul, Nat.reduceLeDiff, reduceCtorEq, Int.reduceNeg, Int.reduceToNat, Int.reduceLT, Int.reduceLE, Int.reduceGE, Int.reduceGT, Int.reduceEq, hb]
end Go.Proofs.Ytaokfnfaipdpdaa.Fn
