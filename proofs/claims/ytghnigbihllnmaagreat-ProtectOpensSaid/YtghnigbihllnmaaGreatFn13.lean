/- Authenticators: their bytes. -/
import Derived.Test.YtghnigbihllnmaaGreatHlC
import Derived.Test.YtghnigbihllnmaaGreatSp1
import Derived.Test.YtghnigbihllnmaaGreatTy
import Derived.Test.YtghnigbihllnmaaGreatFn2
import Derived.Test.YtghnigbihllnmaaGreatFn12
set_option linter.unusedVariables false
set_option linter.unusedSimpArgs false
namespace Go.Proofs.YtghnigbihllnmaaGreat.Fn
open Go Hl Sp Ty
set_option maxRecDepth 100000

def flagZ (little : Bool) : Int := if little then 1 else 0
theorem Flag_pure (little : Bool) : PC Tryz.prog 153 [.raw (.bool little)] (.raw (.int .i64 (flagZ little))) := by
  refine PC.of_ac ?_
  refine AC.of_body (M := []) Tryz.func153 rfl (by kernel_rfl) (Nat.le_of_ble_eq_true rfl) ?_; simp only [Tryz.results153, Tryz.ntmps153]
  cases little
  · simp (dsimp := false) only [go_sem, ↓reduceIte, Nat.reduceEqDiff, Nat.reduceLT, Nat.reduceAdd, Nat.reduceSub, Nat.reduceMul, Nat.reduceLeDiff, reduceCtorEq, Int.reduceNeg, Int.reduceToNat, Int.reduceLT, Int.reduceLE, Int.reduceGE, Int.reduceGT, Int.reduceEq]; rfl
  · simp (dsimp := false) only [go_sem, ↓reduceIte, Nat.reduceEqDiff, Nat.reduceLT, Nat.reduceAdd, Nat.reduceSub, Nat.reduceMul, Nat.reduceLeDiff, reduceCtorEq, Int.reduceNeg, Int.reduceToNat, Int.reduceLT, Int.reduceLE, Int.reduceGE, Int.reduceGT, Int.reduceEq]; rfl
theorem rPutOrder_pure (b : List UInt8) (little : Bool) (hn : b.length ≤ 140737488355000) : PC Tryz.prog 67 [.lst 1 (b.map byteA), .raw (.bool little)] (.lst 1 ((b ++ [u8 (flagZ little)]).map byteA)) := by
  refine PC.of_ac ?_
  refine AC.of_body (M := []) Tryz.func67 rfl (by kernel_rfl) (Nat.le_of_ble_eq_true rfl) ?_; simp only [Tryz.results67, Tryz.ntmps67]
  cases little
  · simp (dsimp := false) only [go_sem, ↓reduceIte, Nat.reduceEqDiff, Nat.reduceLT, Nat.reduceAdd, Nat.reduceSub, Nat.reduceMul, Nat.reduceLeDiff, reduceCtorEq, Int.reduceNeg, Int.reduceToNat, Int.reduceLT, Int.reduceLE, Int.reduceGE, Int.reduceGT, Int.reduceEq]
    exact ACs.pure (rPutOctet_pure b 0 hn) (by simp (dsimp := false) only [go_sem, ↓reduceIte, Nat.reduceEqDiff, Nat.reduceLT, Nat.reduceAdd, Nat.reduceSub, Nat.reduceMul, Nat.reduceLeDiff, reduceCtorEq, Int.reduceNeg, Int.reduceToNat, Int.reduceLT, Int.reduceLE, Int.reduceGE, Int.reduceGT, Int.reduceEq]; rfl)
  · simp (dsimp := false) only [go_sem, ↓reduceIte, Nat.reduceEqDiff, Nat.reduceLT, Nat.reduceAdd, Nat.reduceSub, Nat.reduceMul, Nat.reduceLeDiff, reduceCtorEq, Int.reduceNeg, Int.reduceToNat, Int.reduceLT, Int.reduceLE, Int.reduceGE, Int.reduceGT, Int.reduceEq]
    exact ACs.pure (rPutOctet_pure b 1 hn) (by simp (dsimp := false) only [go_sem, ↓reduceIte, Nat.reduceEqDiff, Nat.reduceLT, Nat.reduceAdd, Nat.reduceSub, Nat.reduceMul, Nat.reduceLeDiff, reduceCtorEq, Int.reduceNeg, Int.reduceToNat, Int.reduceLT, Int.reduceLE, Int.reduceGE, Int.reduceGT, Int.reduceEq]; rfl)

def authPre (n i r : ByteArray) (c t m : Int) (little : Bool) : List UInt8 := [u8 (flagZ little)] ++ prinB n i r ++ numB c 4 little ++ [u8 t] ++ numB m 4 little
def padB (b : List UInt8) : List UInt8 := b ++ List.replicate (padN b.length) 0
def authB (n i r : ByteArray) (c t m : Int) (little : Bool) : List UInt8 := padB (authPre n i r c t m little)
/-- What Encode answers. -/
def authE (n i r : ByteArray) (c t m : Int) (little : Bool) : AV := .tup [.lst 1 ((if authChk n i r c t m = 0 then authB n i r c t m little else []).map byteA), .raw (.int .i64 (authChk n i r c t m))]
theorem prinB_length (n i r : ByteArray) : (prinB n i r).length = n.size + i.size + r.size + 3 := by
  simp only [prinB, List.length_append, textB_length]; omega
theorem authPre_length (n i r : ByteArray) (c t m : Int) (little : Bool) : (authPre n i r c t m little).length = n.size + i.size + r.size + 13 := by
  simp only [authPre, List.length_append, prinB_length, numB_length, List.length_singleton]; omega

end Go.Proofs.YtghnigbihllnmaaGreat.Fn
