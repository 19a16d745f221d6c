/- The law on the two orders of bytes. -/
import Derived.Test.YtaokfnfaipdpdaaFn5
set_option linter.unusedVariables false
set_option linter.unusedSimpArgs false
namespace Go.Proofs.Ytaokfnfaipdpdaa.Fn
open Go Hl Sp Ty

set_option maxRecDepth 100000 in
theorem Number_ok (b : List UInt8) (at_ : Int) (little : Bool) (h0 : 0 ≤ at_) (h3 : at_ + 4 ≤ b.length) (hn : b.length ≤ 140737488355000) :
    PC Try.prog 139 [.lst 1 (b.map byteA), .raw (.int .i64 at_), .raw (.bool little)]
      (.tup [.raw (.int .i64 (readV ((b.drop at_.toNat).take 4) little)), .raw (.int .i64 (at_ + 4)), .raw (.int .i64 0)]) := by
  refine PC.of_ac ?_
  refine AC.of_body (M := []) Try.func139 rfl (by kernel_rfl) (Nat.le_of_ble_eq_true rfl) ?_; simp only [Try.results139, Try.ntmps139]
  simp (dsimp := false) only [go_sem, ↓reduceIte, Nat.reduceEqDiff, Nat.reduceLT, Nat.reduceAdd, Nat.reduceSub, Nat.reduceMul, Nat.reduceLeDiff, reduceCtorEq, Int.reduceNeg, Int.reduceToNat, Int.reduceLT, Int.reduceLE, Int.reduceEq]
  exact ACs.pure (read_ok b at_ 4 little h0 (by omega) (by omega) hn) (by simp (dsimp := false) only [go_sem, ↓reduceIte, Nat.reduceEqDiff, Nat.reduceLT, Nat.reduceAdd, Nat.reduceSub, Nat.reduceMul, Nat.reduceLeDiff, reduceCtorEq, Int.reduceNeg, Int.reduceToNat, Int.reduceLT, Int.reduceLE, Int.reduceEq])

end Go.Proofs.Ytaokfnfaipdpdaa.Fn
