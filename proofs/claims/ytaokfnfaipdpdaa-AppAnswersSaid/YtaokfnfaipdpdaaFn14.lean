/- The law on which authenticators are valid. -/
import Derived.Test.YtaokfnfaipdpdaaHlC
import Derived.Test.YtaokfnfaipdpdaaSp1
import Derived.Test.YtaokfnfaipdpdaaTy
import Derived.Test.YtaokfnfaipdpdaaFn8
import Derived.Test.YtaokfnfaipdpdaaFn12
import Derived.Test.YtaokfnfaipdpdaaFn13
set_option linter.unusedVariables false
set_option linter.unusedSimpArgs false
namespace Go.Proofs.Ytaokfnfaipdpdaa.Fn
open Go Hl Sp Ty
set_option maxRecDepth 100000

def longB (n i r : ByteArray) : Bool := decide ((n.size : Int) > 100) || decide ((i.size : Int) > 100) || decide ((r.size : Int) > 100)
theorem long7_pure (n i r : ByteArray) (c t m : Int) : PC Try.prog 20 [authA n i r c t m] (.raw (.bool (longB n i r))) := by
  refine PC.of_ac ?_
  unfold authA
  refine AC.of_body (M := []) Try.func20 rfl (by kernel_rfl) (Nat.le_of_ble_eq_true rfl) ?_; simp only [Try.results20, Try.ntmps20]
  by_cases h1 : (n.size : Int) > 100
  · simp (dsimp := false) only [go_sem, ↓reduceIte, Nat.reduceEqDiff, Nat.reduceLT, Nat.reduceAdd, Nat.reduceSub, Nat.reduceMul, Nat.reduceLeDiff, reduceCtorEq, Int.reduceNeg, Int.reduceToNat, Int.reduceLT, Int.reduceLE, Int.reduceGE, Int.reduceGT, Int.reduceEq, h1]
    simp [longB]; omega
  by_cases h2 : (i.size : Int) > 100
  · simp (dsimp := false) only [go_sem, ↓reduceIte, Nat.reduceEqDiff, Nat.reduceLT, Nat.reduceAdd, Nat.reduceSub, Nat.reduceMul, Nat.reduceLeDiff, reduceCtorEq, Int.reduceNeg, Int.reduceToNat, Int.reduceLT, Int.reduceLE, Int.reduceGE, Int.reduceGT, Int.reduceEq, h1, h2]
    simp [longB]; omega
  by_cases h3 : (r.size : Int) > 100
  · simp (dsimp := false) only [go_sem, ↓reduceIte, Nat.reduceEqDiff, Nat.reduceLT, Nat.reduceAdd, Nat.reduceSub, Nat.reduceMul, Nat.reduceLeDiff, reduceCtorEq, Int.reduceNeg, Int.reduceToNat, Int.reduceLT, Int.reduceLE, Int.reduceGE, Int.reduceGT, Int.reduceEq, h1, h2, h3]
    simp [longB]; omega
  simp (dsimp := false) only [go_sem, ↓reduceIte, Nat.reduceEqDiff, Nat.reduceLT, Nat.reduceAdd, Nat.reduceSub, Nat.reduceMul, Nat.reduceLeDiff, reduceCtorEq, Int.reduceNeg, Int.reduceToNat, Int.reduceLT, Int.reduceLE, Int.reduceGE, Int.reduceGT, Int.reduceEq, h1, h2, h3]
  simp [longB]; omega
theorem longB_false {n i r : ByteArray} (h : longB n i r = false) : n.size ≤ 100 ∧ i.size ≤ 100 ∧ r.size ≤ 100 := by
  unfold longB at h
  simp only [Bool.or_eq_false_iff, decide_eq_false_iff_not] at h
  omega
theorem tmod_cases5 {f : Int} (h : 0 ≤ f) : f.tmod 5 = 0 ∨ f.tmod 5 = 1 ∨ f.tmod 5 = 2 ∨ f.tmod 5 = 3 ∨ f.tmod 5 = 4 := by
  rw [Int.tmod_eq_emod_of_nonneg h]; omega
end Go.Proofs.Ytaokfnfaipdpdaa.Fn
