/- The law on answers of a service. -/
import Derived.Test.YtghnigbihllnmaaFn45
import Derived.Test.YtghnigbihllnmaaFn44
import Derived.Test.YtghnigbihllnmaaFn1
set_option linter.unusedVariables false
set_option linter.unusedSimpArgs false
namespace Go.Proofs.Ytghnigbihllnmaa.Fn
open Go Hl Sp Ty
set_option maxRecDepth 100000
theorem ap_weak {own : Own} {a b c d : AV} : Weak1 own (.st [a, b, c, d, .raw (.slice none 0 0), .raw (.slice none 0 0)]) own (.st [a, b, c, d, .lst 1 [], .lst 1 []]) :=
  Weak1.trans (Weak1.st (Weak.one (pre := [a, b, c, d]) (post := [.raw (.slice none 0 0)]) (Weak1.nil (wd := 1)))) (Weak1.st (Weak.one (pre := [a, b, c, d, .lst 1 []]) (post := []) (Weak1.nil (wd := 1))))
theorem awake10_pure : PC Try.prog 11 [] (.raw (.bool true)) := by
  refine PC.of_ac ?_
  have h1 := mutEncode_pure true 1 0 0
  have h2 := apEncode_pure false true 0 ⟨#[82]⟩ [] [] (by decide) (by decide) (by decide)
  have e1 : mutE true 1 0 0 = .tup [.lst 1 ([1, 1, 0, 0, 0, 0, 0, 0, 0, 0, 0, 0, 0, 0, 0, 0].map byteA), .raw (.int .i64 0)] := by
    have c1 : mutChk true 1 0 0 = 0 := by decide
    have c2 : mutB true 1 0 0 = [1, 1, 0, 0, 0, 0, 0, 0, 0, 0, 0, 0, 0, 0, 0, 0] := by decide
    rw [mutE, c1, if_pos rfl, c2]
  have e2 : apE false true 0 ⟨#[82]⟩ [] [] = .tup [.lst 1 ([4, 8, 0, 82, 0, 0, 0].map byteA), .raw (.int .i64 0)] := by
    have c1 : apChk false true 0 ⟨#[82]⟩ [] [] = 0 := by decide
    have c2 : apB false true 0 ⟨#[82]⟩ [] [] = [4, 8, 0, 82, 0, 0, 0] := by decide
    rw [apE, c1, if_pos rfl, c2]
  rw [e1] at h1
  rw [e2] at h2
  unfold mutA at h1
  unfold apA at h2
  refine AC.of_body (M := []) Try.func11 rfl (by kernel_rfl) (Nat.le_of_ble_eq_true rfl) ?_; simp only [Try.results11, Try.ntmps11]
  simp (dsimp := false) only [go_sem, ↓reduceIte, Nat.reduceEqDiff, Nat.reduceLT, Nat.reduceAdd, Nat.reduceSub, Nat.reduceMul, Nat.reduceLeDiff, reduceCtorEq, Int.reduceNeg, Int.reduceToNat, Int.reduceLT, Int.reduceLE, Int.reduceGE, Int.reduceGT, Int.reduceEq]
  refine ACs.pure h1 ?_
  simp (dsimp := false) only [go_sem, ↓reduceIte, Nat.reduceEqDiff, Nat.reduceLT, Nat.reduceAdd, Nat.reduceSub, Nat.reduceMul, Nat.reduceLeDiff, reduceCtorEq, Int.reduceNeg, Int.reduceToNat, Int.reduceLT, Int.reduceLE, Int.reduceGE, Int.reduceGT, Int.reduceEq]
  refine ACs.arg (pre := []) (post := []) ap_weak ?_
  refine ACs.pure h2 ?_
  have hb : byteA 1 = .raw (.int .u8 1) := rfl
  have hb' : byteA 8 = .raw (.int .u8 8) := rfl
  simp (dsimp := false) only [go_sem, ↓reduceIte, Nat.reduceEqDiff, Nat.reduceLT, Nat.reduceAdd, Nat.reduceSub, Nat.reduceMul, Nat.reduceLeDiff, reduceCtorEq, Int.reduceNeg, Int.reduceToNat, Int.reduceLT, Int.reduceLE, Int.reduceGE, Int.reduceGT, Int.reduceEq, hb, hb']
theorem mutB_length (lt : Bool) (ck ti tm : Int) : (mutB lt ck ti tm).length ≤ 20 := by
  have h := padB_length ([u8 (flagZ lt)] ++ mutF lt ck ti tm)
  rw [List.length_append, mutF_length] at h
  unfold mutB
  simp only [List.length_singleton] at h
  omega
theorem ansB_length (lt : Bool) (x : List UInt8) : (ansB lt x).length = x.length + 4 := by
  rw [ansB, List.length_append, hdB_length, ansF_length]
  omega
end Go.Proofs.Ytghnigbihllnmaa.Fn
