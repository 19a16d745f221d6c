/- The law on the two orders of bytes. -/
import Derived.Test.YtenfgknhongaaaaFn5
set_option linter.unusedVariables false
set_option linter.unusedSimpArgs false
namespace Go.Proofs.Ytenfgknhongaaaa.Fn
open Go Hl Sp Ty

set_option maxRecDepth 100000 in
theorem Number_ok (b : List UInt8) (at_ : Int) (little : Bool) (h0 : 0 ≤ at_) (h3 : at_ + 4 ≤ b.length) (hn : b.length ≤ 140737488355000) :
    PC Try.prog 28 [.lst 1 (b.map byteA), .raw (.int .i64 at_), .raw (.bool little)]
      (.tup [.raw (.int .i64 (readV ((b.drop at_.toNat).take 4) little)), .raw (.int .i64 (at_ + 4)), .raw (.int .i64 0)]) := by
  refine PC.of_ac ?_
  refine AC.of_body (M := []) Try.func28 rfl (by kernel_rfl) (Nat.le_of_ble_eq_true rfl) ?_; simp only [Try.results28, Try.ntmps28]
  simp (dsimp := false) only [go_sem, ↓reduceIte, Nat.reduceEqDiff, Nat.reduceLT, Nat.reduceAdd, Nat.reduceSub, Nat.reduceMul, Nat.reduceLeDiff, reduceCtorEq, Int.reduceNeg, Int.reduceToNat, Int.reduceLT, Int.reduceLE, Int.reduceEq]
  exact ACs.pure (read_ok b at_ 4 little h0 (by omega) (by omega) hn) (by simp (dsimp := false) only [go_sem, ↓reduceIte, Nat.reduceEqDiff, Nat.reduceLT, Nat.reduceAdd, Nat.reduceSub, Nat.reduceMul, Nat.reduceLeDiff, reduceCtorEq, Int.reduceNeg, Int.reduceToNat, Int.reduceLT, Int.reduceLE, Int.reduceEq])

theorem rev_getD (l : List UInt8) (i : Nat) (h : i < l.length) : l.reverse.getD (l.length - 1 - i) 0 = l.getD i 0 := by
  rw [List.getD_eq_getElem?_getD, List.getD_eq_getElem?_getD, List.getElem?_reverse (by omega)]
  congr 2
  omega
set_option maxRecDepth 100000 in
set_option maxHeartbeats 4000000 in
theorem FieldOrder_pc (w : Int) : PC Try.prog 4 [.raw (.int .u32 w)] (.raw (.bool true)) := by
  refine PC.of_ac ?_
  refine AC.of_body (M := []) Try.func4 rfl (by kernel_rfl) (Nat.le_of_ble_eq_true rfl) ?_; simp only [Try.results4, Try.ntmps4]
  simp (dsimp := false) only [go_sem, ↓reduceIte, Nat.reduceEqDiff, Nat.reduceLT, Nat.reduceAdd, Nat.reduceSub, Nat.reduceMul, Nat.reduceLeDiff, reduceCtorEq, Int.reduceNeg, Int.reduceToNat, Int.reduceLT, Int.reduceLE, Int.reduceEq]
  refine ACs.pure awake5_pure ?_
  simp (dsimp := false) only [go_sem, ↓reduceIte, Nat.reduceEqDiff, Nat.reduceLT, Nat.reduceAdd, Nat.reduceSub, Nat.reduceMul, Nat.reduceLeDiff, reduceCtorEq, Int.reduceNeg, Int.reduceToNat, Int.reduceLT, Int.reduceLE, Int.reduceEq]
  refine ACs.arg (pre := []) (Weak1.nil (wd := 1)) ?_
  refine ACs.pure (PutNumber_pure [] (IntKind.i64.wrap w) true (by simp)) ?_
  simp (dsimp := false) only [go_sem, ↓reduceIte, Nat.reduceEqDiff, Nat.reduceLT, Nat.reduceAdd, Nat.reduceSub, Nat.reduceMul, Nat.reduceLeDiff, reduceCtorEq, Int.reduceNeg, Int.reduceToNat, Int.reduceLT, Int.reduceLE, Int.reduceEq]
  refine ACs.arg (pre := []) (Weak1.nil (wd := 1)) ?_
  refine ACs.pure (PutNumber_pure [] (IntKind.i64.wrap w) false (by simp)) ?_
  have hl1 : (numB (IntKind.i64.wrap w) 4 true).length = 4 := numB_length _ _ _
  have hl2 : (numB (IntKind.i64.wrap w) 4 false).length = 4 := numB_length _ _ _
  have hrev : numB (IntKind.i64.wrap w) 4 false = (numB (IntKind.i64.wrap w) 4 true).reverse := rfl
  rw [hrev] at hl2 ⊢
  generalize numB (IntKind.i64.wrap w) 4 true = l at *
  have c4 : ((4 : Nat) : Int) = 4 := rfl
  simp (dsimp := false) only [go_sem, ↓reduceIte, Nat.reduceEqDiff, Nat.reduceLT, Nat.reduceAdd, Nat.reduceSub, Nat.reduceMul, Nat.reduceLeDiff, reduceCtorEq, Int.reduceNeg, Int.reduceToNat, Int.reduceLT, Int.reduceLE, Int.reduceEq, hl1, hl2, c4]
  refine AW.loopJ (M := []) (X := Nat) (fun i => ⟨65, tmL [(3, .lst 1 (l.map byteA)), (4, .lst 1 (l.reverse.map byteA)), (5, .raw (.int .i64 i))], noOwn⟩)
    (fun i => i ≤ 4) (fun i => 4 - i) 0 (Nat.zero_le _) ?_ ?_
  · (refine Ghost.same ?_; (repeat' (first | exact all_nil | refine all_cons ?_ ?_)) <;> (first | (simp (dsimp := false) only [go_sem, ↓reduceIte, Nat.reduceEqDiff, Nat.reduceLT, Nat.reduceAdd, Nat.reduceSub, Nat.reduceMul, Nat.reduceLeDiff, reduceCtorEq, Int.reduceNeg, Int.reduceToNat, Int.reduceLT, Int.reduceLE, Int.reduceEq]; done) | (simp (dsimp := false) only [go_sem, ↓reduceIte, Nat.reduceEqDiff, Nat.reduceLT, Nat.reduceAdd, Nat.reduceSub, Nat.reduceMul, Nat.reduceLeDiff, reduceCtorEq, Int.reduceNeg, Int.reduceToNat, Int.reduceLT, Int.reduceLE, Int.reduceEq]; rfl)))
  · intro i hi
    by_cases hlt : (i : Int) < 4
    · simp (dsimp := false) only [go_sem, ↓reduceIte, Nat.reduceEqDiff, Nat.reduceLT, Nat.reduceAdd, Nat.reduceSub, Nat.reduceMul, Nat.reduceLeDiff, reduceCtorEq, Int.reduceNeg, Int.reduceToNat, Int.reduceLT, Int.reduceLE, Int.reduceEq, hlt]
      refine AW.draw (M := []) [.v, .v, .v, .v, .v, .v, .v, .v, .v, .v] mixed (by kernel_rfl) ?_
      have e1 : IntKind.i64.wrap (3 - (i : Int)) = ((3 - i : Nat) : Int) := by rw [wrap_i64 (by omega) (by omega)]; omega
      have e2 : IntKind.i64.wrap ((i : Int) + 1) = ((i + 1 : Nat) : Int) := by rw [wrap_i64 (by omega) (by omega)]; omega
      have hg1 : (l.map byteA).getD i .any = .raw (.int .u8 ((l.getD i 0).toNat)) := by rw [getD_byte (by omega)]; rfl
      have hg2 : (l.reverse.map byteA).getD (3 - i) .any = .raw (.int .u8 ((l.getD i 0).toNat)) := by
        rw [getD_byte (by omega), show 3 - i = l.length - 1 - i by omega, rev_getD l i (by omega)]; rfl
      simp (dsimp := false) only [go_sem, ↓reduceIte, Nat.reduceEqDiff, Nat.reduceLT, Nat.reduceAdd, Nat.reduceSub, Nat.reduceMul, Nat.reduceLeDiff, reduceCtorEq, Int.reduceNeg, Int.reduceToNat, Int.reduceLT, Int.reduceLE, Int.reduceEq, e1, e2, hg1, hg2, hl1, hl2]
      refine ⟨by omega, by omega, i + 1, by omega, ?_, by omega⟩
      (refine Ghost.same ?_; (repeat' (first | exact all_nil | refine all_cons ?_ ?_)) <;> (first | (simp (dsimp := false) only [go_sem, ↓reduceIte, Nat.reduceEqDiff, Nat.reduceLT, Nat.reduceAdd, Nat.reduceSub, Nat.reduceMul, Nat.reduceLeDiff, reduceCtorEq, Int.reduceNeg, Int.reduceToNat, Int.reduceLT, Int.reduceLE, Int.reduceEq]; done) | (simp (dsimp := false) only [go_sem, ↓reduceIte, Nat.reduceEqDiff, Nat.reduceLT, Nat.reduceAdd, Nat.reduceSub, Nat.reduceMul, Nat.reduceLeDiff, reduceCtorEq, Int.reduceNeg, Int.reduceToNat, Int.reduceLT, Int.reduceLE, Int.reduceEq]; rfl)))
    · simp (dsimp := false) only [go_sem, ↓reduceIte, Nat.reduceEqDiff, Nat.reduceLT, Nat.reduceAdd, Nat.reduceSub, Nat.reduceMul, Nat.reduceLeDiff, reduceCtorEq, Int.reduceNeg, Int.reduceToNat, Int.reduceLT, Int.reduceLE, Int.reduceEq, hlt]
      refine ACs.pure (Number_ok l 0 false (by omega) (by omega) (by omega)) ?_
      simp (dsimp := false) only [go_sem, ↓reduceIte, Nat.reduceEqDiff, Nat.reduceLT, Nat.reduceAdd, Nat.reduceSub, Nat.reduceMul, Nat.reduceLeDiff, reduceCtorEq, Int.reduceNeg, Int.reduceToNat, Int.reduceLT, Int.reduceLE, Int.reduceEq]
      refine ACs.pure (Number_ok l.reverse 0 true (by omega) (by omega) (by omega)) ?_
      have e3 : readV (l.reverse.take 4) true = readV (l.take 4) false := by
        rw [List.take_of_length_le (by omega), List.take_of_length_le (by omega)]; rfl
      simp (dsimp := false) only [go_sem, ↓reduceIte, Nat.reduceEqDiff, Nat.reduceLT, Nat.reduceAdd, Nat.reduceSub, Nat.reduceMul, Nat.reduceLeDiff, reduceCtorEq, Int.reduceNeg, Int.reduceToNat, Int.reduceLT, Int.reduceLE, Int.reduceEq, e3]
end Go.Proofs.Ytenfgknhongaaaa.Fn
