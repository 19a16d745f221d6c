/- The reference's reader of fields. -/
import Derived.Test.YtghnigbihllnmaaGreatHlC
import Derived.Test.YtghnigbihllnmaaGreatSp1
import Derived.Test.YtghnigbihllnmaaGreatTy
import Derived.Test.YtghnigbihllnmaaGreatFn1
import Derived.Test.YtghnigbihllnmaaGreatFn3
import Derived.Test.YtghnigbihllnmaaGreatFn5
import Derived.Test.YtghnigbihllnmaaGreatFn7
import Derived.Test.YtghnigbihllnmaaGreatFn9
import Derived.Test.YtghnigbihllnmaaGreatFn15
import Derived.Test.YtghnigbihllnmaaGreatFn17
import Derived.Test.YtghnigbihllnmaaGreatFn20
set_option linter.unusedVariables false
set_option linter.unusedSimpArgs false
namespace Go.Proofs.YtghnigbihllnmaaGreat.Fn
open Go Hl Sp Ty
set_option maxRecDepth 100000

/-- What is there but k is there later, too. -/
def SubX (k : Nat) (a b : Own) : Prop := ∀ j o, j ≠ k → a j = some o → b j = some o
theorem SubX.refl (k : Nat) (a : Own) : SubX k a a := fun _ _ _ h => h
theorem SubX.here {k : Nat} {a b : Own} {o : OB} (h : SubX k a b) : SubX k a (b.set k o) := fun j q hj hq => by
  rw [Own.set_ne _ _ hj]; exact h j q hj hq
theorem SubX.fresh {k k' : Nat} {a b : Own} {o : OB} (hk : a k' = none) (h : SubX k a b) : SubX k a (b.set k' o) := fun j q hj hq => by
  have : j ≠ k' := fun e => by rw [e, hk] at hq; cases hq
  rw [Own.set_ne _ _ this]; exact h j q hj hq
theorem Sub.over {k : Nat} {a b : Own} {o : OB} (h : SubX k a b) : Hl.Sub (a.set k o) (b.set k o) := fun j q hq => by
  by_cases hj : j = k
  · rw [hj, Own.set_same] at hq ⊢; exact hq
  · rw [Own.set_ne _ _ hj] at hq ⊢; exact h j q hj hq
def bytesR (b : List UInt8) (at_ n : Int) : List UInt8 × Int × Int := if at_ + n ≤ b.length then ((b.drop at_.toNat).take n.toNat, at_ + n, 0) else ([], 0, 101)
theorem rBytes_pure (b : List UInt8) (at_ n : Int) (h0 : 0 ≤ at_) (h1 : at_ ≤ b.length) (h2 : 0 ≤ n) (h3 : n ≤ 140737488355000) (hn : b.length ≤ 140737488355000) :
    PC Tryz.prog 150 [.lst 1 (b.map byteA), .raw (.int .i64 at_), .raw (.int .i64 n)] (.tup [.lst 1 ((bytesR b at_ n).1.map byteA), .raw (.int .i64 (bytesR b at_ n).2.1), .raw (.int .i64 (bytesR b at_ n).2.2)]) := by
  refine PC.post ?_
  refine AC.of_body (M := [27]) Tryz.func150 rfl (by kernel_rfl) (Nat.le_of_ble_eq_true rfl) ?_; simp only [Tryz.results150, Tryz.ntmps150]
  have c1 : ¬ at_ < 0 := by omega
  have c2 : ¬ at_ > (b.length : Int) := by omega
  have c3 : ¬ n < 0 := by omega
  have e1 : IntKind.i64.wrap ((b.length : Int) - at_) = b.length - at_ := wrap_i64 (by omega) (by omega)
  have e2 : IntKind.i64.wrap (at_ + n) = at_ + n := wrap_i64 (by omega) (by omega)
  by_cases c4 : n > (b.length : Int) - at_
  · simp (dsimp := false) only [go_sem, ↓reduceIte, Nat.reduceEqDiff, Nat.reduceLT, Nat.reduceAdd, Nat.reduceSub, Nat.reduceMul, Nat.reduceLeDiff, reduceCtorEq, Int.reduceNeg, Int.reduceToNat, Int.reduceLT, Int.reduceLE, Int.reduceGE, Int.reduceGT, Int.reduceEq, c1, c2, c3, e1, c4]
    rw [bytesR, if_neg (by omega)]
    exact ⟨noOwn, Weak1.tup (Weak.one (pre := []) Weak1.nil)⟩
  · simp (dsimp := false) only [go_sem, ↓reduceIte, Nat.reduceEqDiff, Nat.reduceLT, Nat.reduceAdd, Nat.reduceSub, Nat.reduceMul, Nat.reduceLeDiff, reduceCtorEq, Int.reduceNeg, Int.reduceToNat, Int.reduceLT, Int.reduceLE, Int.reduceGE, Int.reduceGT, Int.reduceEq, c1, c2, c3, e1, e2, c4]
    intro k hk
    refine ⟨by omega, okA_bytes _, ?_⟩
    have hl : (((b.drop at_.toNat).take ((at_ + n).toNat - at_.toNat))).length = n.toNat := by simp; omega
    have hq : (b.drop at_.toNat).take ((at_ + n).toNat - at_.toNat) = (bytesR b at_ n).1 := by rw [bytesR, if_pos (by omega)]; simp only; congr 1; omega
    have hr : (bytesR b at_ n).2.1 = at_ + n ∧ (bytesR b at_ n).2.2 = 0 := by rw [bytesR, if_pos (by omega)]; exact ⟨rfl, rfl⟩
    rw [hq] at hl
    (try simp only [hq])
    refine ⟨by omega, by omega, fun k' c' hk' hc' => ?_⟩
    rw [Own.set_move hk, flat_byte, hr.1, hr.2]
    refine ⟨_, Weak1.tup (Weak.one (pre := []) (rowW _ k' c' c' _ _ [] (by rw [List.append_nil]; exact Own.set_same _ _ _) rfl hc' (by omega)))⟩
theorem bytesR_len {b : List UInt8} {at_ n : Int} (h0 : 0 ≤ at_) (h2 : 0 ≤ n) (h : (bytesR b at_ n).2.2 = 0) : at_ + n ≤ b.length ∧ (bytesR b at_ n).1 = (b.drop at_.toNat).take n.toNat ∧ (bytesR b at_ n).2.1 = at_ + n := by
  unfold bytesR at *
  split at h
  · rename_i hc
    rw [if_pos hc]
    exact ⟨hc, rfl, rfl⟩
  · simp at h

/-- The number of i of the bytes, the reference's way. -/
def refV (l : List UInt8) (little : Bool) (i : Nat) : Nat := if little then readL (l.drop (l.length - i)) else readL (l.take i).reverse
theorem refV_all (l : List UInt8) (little : Bool) : refV l little l.length = readV l little := by
  unfold refV readV
  cases little
  · simp
  · simp
theorem refV_succ (l : List UInt8) (little : Bool) (i : Nat) (h : i < l.length) : refV l little (i + 1) = 256 * refV l little i + (l.getD (if little then l.length - 1 - i else i) 0).toNat := by
  unfold refV
  cases little
  · have htake : l.take (i + 1) = l.take i ++ [l.getD i 0] := by
      rw [List.take_add_one]
      simp [List.getD_eq_getElem?_getD, List.getElem?_eq_getElem h]
    simp only [Bool.false_eq_true, if_false, htake]
    simp [readL]; omega
  · simp only [if_true]
    have hlt : l.length - (i + 1) < l.length := by omega
    have : l.drop (l.length - (i + 1)) = l.getD (l.length - 1 - i) 0 :: l.drop (l.length - i) := by
      rw [List.drop_eq_getElem_cons hlt, show l.length - (i + 1) + 1 = l.length - i by omega]
      congr 1
      rw [List.getD_eq_getElem?_getD, show l.length - 1 - i = l.length - (i + 1) by omega, List.getElem?_eq_getElem hlt]
      rfl
    rw [this, readL]; omega
theorem refV_lt (l : List UInt8) (little : Bool) (i : Nat) (h : i ≤ l.length) : refV l little i < 2 ^ (8 * i) := by
  unfold refV
  cases little
  · have := readL_lt (l.take i).reverse
    simp only [List.length_reverse, List.length_take, Nat.min_eq_left h] at this
    simpa using this
  · have := readL_lt (l.drop (l.length - i))
    simp only [List.length_drop, show l.length - (l.length - i) = i by omega] at this
    simpa using this
theorem or_i64 (a : Nat) (c : Nat) (hc : c < 256) (ha : a < 16777216) : IntKind.i64.wrap ((BitVec.ofInt IntKind.i64.bits (IntKind.i64.wrap ((a : Int) * 2 ^ min 8 64)) ||| BitVec.ofInt IntKind.i64.bits (c : Int)).toNat : Nat) = ((256 * a + c : Nat) : Int) := by
  have e0 : IntKind.i64.wrap ((a : Int) * 2 ^ min 8 64) = ((2 ^ 8 * a : Nat) : Int) := by
    rw [show (2 : Int) ^ min 8 64 = 256 by decide, show (2 : Nat) ^ 8 = 256 by decide, wrap_i64 (by omega) (by omega)]; omega
  have h8 : (2 : Nat) ^ 8 = 256 := by decide
  have h63 : (2 : Nat) ^ 63 = 9223372036854775808 := by decide
  rw [e0, BitVec.or_comm, or_add c a 8 (by omega) (by omega), h8]

set_option maxHeartbeats 4000000 in
theorem rget_pure (b : List UInt8) (at_ : Int) (size : Nat) (little : Bool) (h0 : 0 ≤ at_) (h1 : at_ ≤ b.length) (hs : size ≤ 4) (hn : b.length ≤ 140737488355000) :
    PC Tryz.prog 174 [.lst 1 (b.map byteA), .raw (.int .i64 at_), .raw (.int .i64 size), .raw (.bool little)] (.tup [.raw (.int .i64 (readN b at_ size little).1), .raw (.int .i64 (readN b at_ size little).2.1), .raw (.int .i64 (readN b at_ size little).2.2)]) := by
  refine PC.of_ac ?_
  have hB := rBytes_pure b at_ size h0 h1 (by omega) (by omega) hn
  by_cases hf : at_ + size ≤ b.length
  · have hb1 : bytesR b at_ size = ((b.drop at_.toNat).take size, at_ + size, 0) := by rw [bytesR, if_pos hf, Int.toNat_natCast]
    rw [hb1] at hB
    rw [readN, if_pos hf]
    have hlen : ((b.drop at_.toNat).take size).length = size := by simp; omega
    have hvv := refV_all ((b.drop at_.toNat).take size) little
    generalize (b.drop at_.toNat).take size = l at *
    rw [hlen] at hvv
    refine AC.of_body (M := []) Tryz.func174 rfl (by kernel_rfl) (Nat.le_of_ble_eq_true rfl) ?_; simp only [Tryz.results174, Tryz.ntmps174]
    simp (dsimp := false) only [go_sem, ↓reduceIte, Nat.reduceEqDiff, Nat.reduceLT, Nat.reduceAdd, Nat.reduceSub, Nat.reduceMul, Nat.reduceLeDiff, reduceCtorEq, Int.reduceNeg, Int.reduceToNat, Int.reduceLT, Int.reduceLE, Int.reduceGE, Int.reduceGT, Int.reduceEq]
    refine ACs.pure hB ?_
    simp (dsimp := false) only [go_sem, ↓reduceIte, Nat.reduceEqDiff, Nat.reduceLT, Nat.reduceAdd, Nat.reduceSub, Nat.reduceMul, Nat.reduceLeDiff, reduceCtorEq, Int.reduceNeg, Int.reduceToNat, Int.reduceLT, Int.reduceLE, Int.reduceGE, Int.reduceGT, Int.reduceEq]
    refine AW.loopJ (M := []) (X := Nat) (fun i => ⟨49, tmL [(2, .raw (.int .i64 size)), (3, .raw (.bool little)), (11, .lst 1 (l.map byteA)), (12, .raw (.int .i64 (at_ + size))), (14, .raw (.int .i64 (refV l little i))), (15, .raw (.int .i64 i))], noOwn⟩)
      (fun i => i ≤ size) (fun i => size - i) 0 (Nat.zero_le _) ?_ ?_
    · have : refV l little 0 = 0 := by cases little <;> simp [refV, readL]
      rw [this]
      (refine Ghost.same ?_; (repeat' (first | exact all_nil | refine all_cons ?_ ?_)) <;> (first | (simp (dsimp := false) only [go_sem, ↓reduceIte, Nat.reduceEqDiff, Nat.reduceLT, Nat.reduceAdd, Nat.reduceSub, Nat.reduceMul, Nat.reduceLeDiff, reduceCtorEq, Int.reduceNeg, Int.reduceToNat, Int.reduceLT, Int.reduceLE, Int.reduceGE, Int.reduceGT, Int.reduceEq]; done) | (simp (dsimp := false) only [go_sem, ↓reduceIte, Nat.reduceEqDiff, Nat.reduceLT, Nat.reduceAdd, Nat.reduceSub, Nat.reduceMul, Nat.reduceLeDiff, reduceCtorEq, Int.reduceNeg, Int.reduceToNat, Int.reduceLT, Int.reduceLE, Int.reduceGE, Int.reduceGT, Int.reduceEq]; rfl)))
    · intro i hi
      by_cases hlt : (i : Int) < (size : Int)
      · have e2 : IntKind.i64.wrap ((i : Int) + 1) = ((i + 1 : Nat) : Int) := by rw [wrap_i64 (by omega) (by omega)]; omega
        have hlt2 := refV_lt l little i (by omega)
        have hle : (2 : Nat) ^ (8 * i) ≤ 2 ^ 24 := Nat.pow_le_pow_right (by decide) (by omega)
        have h24 : (2 : Nat) ^ 24 = 16777216 := by decide
        have hsu := refV_succ l little i (by omega)
        cases little
        · simp only [Bool.false_eq_true, if_false] at hsu
          have hg : (l.map byteA).getD i .any = .raw (.int .u8 ((l.getD i 0).toNat)) := by rw [getD_byte (by omega)]; rfl
          have hc := (l.getD i 0).toNat_lt
          have e3 : IntKind.i64.wrap ((l.getD i 0).toNat : Int) = (l.getD i 0).toNat := wrap_i64 (by omega) (by omega)
          have ho := or_i64 (refV l false i) (l.getD i 0).toNat hc (by omega)
          rw [← hsu] at ho
          simp (dsimp := false) only [go_sem, ↓reduceIte, Nat.reduceEqDiff, Nat.reduceLT, Nat.reduceAdd, Nat.reduceSub, Nat.reduceMul, Nat.reduceLeDiff, reduceCtorEq, Int.reduceNeg, Int.reduceToNat, Int.reduceLT, Int.reduceLE, Int.reduceGE, Int.reduceGT, Int.reduceEq, hlt, hg, e2, e3, ho, hlen]
          refine ⟨by omega, i + 1, by omega, ?_, by omega⟩
          (refine Ghost.same ?_; (repeat' (first | exact all_nil | refine all_cons ?_ ?_)) <;> (first | (simp (dsimp := false) only [go_sem, ↓reduceIte, Nat.reduceEqDiff, Nat.reduceLT, Nat.reduceAdd, Nat.reduceSub, Nat.reduceMul, Nat.reduceLeDiff, reduceCtorEq, Int.reduceNeg, Int.reduceToNat, Int.reduceLT, Int.reduceLE, Int.reduceGE, Int.reduceGT, Int.reduceEq]; done) | (simp (dsimp := false) only [go_sem, ↓reduceIte, Nat.reduceEqDiff, Nat.reduceLT, Nat.reduceAdd, Nat.reduceSub, Nat.reduceMul, Nat.reduceLeDiff, reduceCtorEq, Int.reduceNeg, Int.reduceToNat, Int.reduceLT, Int.reduceLE, Int.reduceGE, Int.reduceGT, Int.reduceEq]; rfl)))
        · simp only [if_true, hlen] at hsu
          have hj : size - 1 - i < l.length := by omega
          have hg : (l.map byteA).getD (size - 1 - i) .any = .raw (.int .u8 ((l.getD (size - 1 - i) 0).toNat)) := by rw [getD_byte hj]; rfl
          have hc := (l.getD (size - 1 - i) 0).toNat_lt
          have e3 : IntKind.i64.wrap ((l.getD (size - 1 - i) 0).toNat : Int) = (l.getD (size - 1 - i) 0).toNat := wrap_i64 (by omega) (by omega)
          have ho := or_i64 (refV l true i) (l.getD (size - 1 - i) 0).toNat hc (by omega)
          rw [← hsu] at ho
          have e4 : IntKind.i64.wrap ((size : Int) - 1) = (size : Int) - 1 := wrap_i64 (by omega) (by omega)
          have e5 : IntKind.i64.wrap ((size : Int) - 1 - (i : Int)) = ((size - 1 - i : Nat) : Int) := by rw [wrap_i64 (by omega) (by omega)]; omega
          simp (dsimp := false) only [go_sem, ↓reduceIte, Nat.reduceEqDiff, Nat.reduceLT, Nat.reduceAdd, Nat.reduceSub, Nat.reduceMul, Nat.reduceLeDiff, reduceCtorEq, Int.reduceNeg, Int.reduceToNat, Int.reduceLT, Int.reduceLE, Int.reduceGE, Int.reduceGT, Int.reduceEq, hlt, hg, e2, e3, e4, e5, ho, hlen]
          refine ⟨by omega, i + 1, by omega, ?_, by omega⟩
          (refine Ghost.same ?_; (repeat' (first | exact all_nil | refine all_cons ?_ ?_)) <;> (first | (simp (dsimp := false) only [go_sem, ↓reduceIte, Nat.reduceEqDiff, Nat.reduceLT, Nat.reduceAdd, Nat.reduceSub, Nat.reduceMul, Nat.reduceLeDiff, reduceCtorEq, Int.reduceNeg, Int.reduceToNat, Int.reduceLT, Int.reduceLE, Int.reduceGE, Int.reduceGT, Int.reduceEq]; done) | (simp (dsimp := false) only [go_sem, ↓reduceIte, Nat.reduceEqDiff, Nat.reduceLT, Nat.reduceAdd, Nat.reduceSub, Nat.reduceMul, Nat.reduceLeDiff, reduceCtorEq, Int.reduceNeg, Int.reduceToNat, Int.reduceLT, Int.reduceLE, Int.reduceGE, Int.reduceGT, Int.reduceEq]; rfl)))
      · have his : i = size := by omega
        simp (dsimp := false) only [go_sem, ↓reduceIte, Nat.reduceEqDiff, Nat.reduceLT, Nat.reduceAdd, Nat.reduceSub, Nat.reduceMul, Nat.reduceLeDiff, reduceCtorEq, Int.reduceNeg, Int.reduceToNat, Int.reduceLT, Int.reduceLE, Int.reduceGE, Int.reduceGT, Int.reduceEq, hlt]
        subst his
        rw [hvv]
        (try trivial)
  · have hb1 : bytesR b at_ size = ([], 0, 101) := by rw [bytesR, if_neg hf]
    rw [hb1] at hB
    rw [readN, if_neg hf]
    refine AC.of_body (M := []) Tryz.func174 rfl (by kernel_rfl) (Nat.le_of_ble_eq_true rfl) ?_; simp only [Tryz.results174, Tryz.ntmps174]
    simp (dsimp := false) only [go_sem, ↓reduceIte, Nat.reduceEqDiff, Nat.reduceLT, Nat.reduceAdd, Nat.reduceSub, Nat.reduceMul, Nat.reduceLeDiff, reduceCtorEq, Int.reduceNeg, Int.reduceToNat, Int.reduceLT, Int.reduceLE, Int.reduceGE, Int.reduceGT, Int.reduceEq]
    refine ACs.pure hB ?_
    simp (dsimp := false) only [go_sem, ↓reduceIte, Nat.reduceEqDiff, Nat.reduceLT, Nat.reduceAdd, Nat.reduceSub, Nat.reduceMul, Nat.reduceLeDiff, reduceCtorEq, Int.reduceNeg, Int.reduceToNat, Int.reduceLT, Int.reduceLE, Int.reduceGE, Int.reduceGT, Int.reduceEq]
theorem rNumber_tot (b : List UInt8) (at_ : Int) (little : Bool) (h0 : 0 ≤ at_) (h1 : at_ ≤ b.length) (hn : b.length ≤ 140737488355000) :
    PC Tryz.prog 139 [.lst 1 (b.map byteA), .raw (.int .i64 at_), .raw (.bool little)] (.tup [.raw (.int .i64 (readN b at_ 4 little).1), .raw (.int .i64 (readN b at_ 4 little).2.1), .raw (.int .i64 (readN b at_ 4 little).2.2)]) := by
  refine PC.of_ac ?_
  refine AC.of_body (M := []) Tryz.func139 rfl (by kernel_rfl) (Nat.le_of_ble_eq_true rfl) ?_; simp only [Tryz.results139, Tryz.ntmps139]
  have h := rget_pure b at_ 4 little h0 h1 (by omega) hn
  rw [show ((4 : Nat) : Int) = 4 from rfl] at h
  simp (dsimp := false) only [go_sem, ↓reduceIte, Nat.reduceEqDiff, Nat.reduceLT, Nat.reduceAdd, Nat.reduceSub, Nat.reduceMul, Nat.reduceLeDiff, reduceCtorEq, Int.reduceNeg, Int.reduceToNat, Int.reduceLT, Int.reduceLE, Int.reduceGE, Int.reduceGT, Int.reduceEq]
  exact ACs.pure h (by simp (dsimp := false) only [go_sem, ↓reduceIte, Nat.reduceEqDiff, Nat.reduceLT, Nat.reduceAdd, Nat.reduceSub, Nat.reduceMul, Nat.reduceLeDiff, reduceCtorEq, Int.reduceNeg, Int.reduceToNat, Int.reduceLT, Int.reduceLE, Int.reduceGE, Int.reduceGT, Int.reduceEq])
theorem rShort_tot (b : List UInt8) (at_ : Int) (little : Bool) (h0 : 0 ≤ at_) (h1 : at_ ≤ b.length) (hn : b.length ≤ 140737488355000) :
    PC Tryz.prog 149 [.lst 1 (b.map byteA), .raw (.int .i64 at_), .raw (.bool little)] (.tup [.raw (.int .i64 (readN b at_ 2 little).1), .raw (.int .i64 (readN b at_ 2 little).2.1), .raw (.int .i64 (readN b at_ 2 little).2.2)]) := by
  refine PC.of_ac ?_
  refine AC.of_body (M := []) Tryz.func149 rfl (by kernel_rfl) (Nat.le_of_ble_eq_true rfl) ?_; simp only [Tryz.results149, Tryz.ntmps149]
  have h := rget_pure b at_ 2 little h0 h1 (by omega) hn
  rw [show ((2 : Nat) : Int) = 2 from rfl] at h
  simp (dsimp := false) only [go_sem, ↓reduceIte, Nat.reduceEqDiff, Nat.reduceLT, Nat.reduceAdd, Nat.reduceSub, Nat.reduceMul, Nat.reduceLeDiff, reduceCtorEq, Int.reduceNeg, Int.reduceToNat, Int.reduceLT, Int.reduceLE, Int.reduceGE, Int.reduceGT, Int.reduceEq]
  exact ACs.pure h (by simp (dsimp := false) only [go_sem, ↓reduceIte, Nat.reduceEqDiff, Nat.reduceLT, Nat.reduceAdd, Nat.reduceSub, Nat.reduceMul, Nat.reduceLeDiff, reduceCtorEq, Int.reduceNeg, Int.reduceToNat, Int.reduceLT, Int.reduceLE, Int.reduceGE, Int.reduceGT, Int.reduceEq])
theorem rOctet_tot (b : List UInt8) (at_ : Int) (h0 : 0 ≤ at_) (h1 : at_ ≤ b.length) (hn : b.length ≤ 140737488355000) :
    PC Tryz.prog 141 [.lst 1 (b.map byteA), .raw (.int .i64 at_)] (.tup [.raw (.int .i64 (readN b at_ 1 false).1), .raw (.int .i64 (readN b at_ 1 false).2.1), .raw (.int .i64 (readN b at_ 1 false).2.2)]) := by
  refine PC.of_ac ?_
  refine AC.of_body (M := []) Tryz.func141 rfl (by kernel_rfl) (Nat.le_of_ble_eq_true rfl) ?_; simp only [Tryz.results141, Tryz.ntmps141]
  have h := rget_pure b at_ 1 false h0 h1 (by omega) hn
  rw [show ((1 : Nat) : Int) = 1 from rfl] at h
  simp (dsimp := false) only [go_sem, ↓reduceIte, Nat.reduceEqDiff, Nat.reduceLT, Nat.reduceAdd, Nat.reduceSub, Nat.reduceMul, Nat.reduceLeDiff, reduceCtorEq, Int.reduceNeg, Int.reduceToNat, Int.reduceLT, Int.reduceLE, Int.reduceGE, Int.reduceGT, Int.reduceEq]
  exact ACs.pure h (by simp (dsimp := false) only [go_sem, ↓reduceIte, Nat.reduceEqDiff, Nat.reduceLT, Nat.reduceAdd, Nat.reduceSub, Nat.reduceMul, Nat.reduceLeDiff, reduceCtorEq, Int.reduceNeg, Int.reduceToNat, Int.reduceLT, Int.reduceLE, Int.reduceGE, Int.reduceGT, Int.reduceEq])

/-- The reader as an object. -/
def rdO (b : List UInt8) (little : Bool) (s : Int × Bool) : OB := ⟨126, [.lst 1 (b.map byteA), .raw (.int .i64 s.1), .raw (.bool little), .raw (.bool s.2)], 0, 4⟩
theorem move_own (b : List UInt8) (little : Bool) (s : Int × Bool) (k : Nat) (own : Own) (K : AV → Own → Prop) (hk : own k = some (rdO b little s)) (at' e : Int) (h : K (.tup []) (own.set k (rdO b little (nextC s at' e)))) :
    AC Tryz.prog 140 [.raw (.pointer (some ⟨k, 0, none⟩)), .raw (.int .i64 at'), .raw (.int .i64 e)] own K := by
  obtain ⟨at_, bad⟩ := s
  unfold rdO at hk
  refine AC.of_body (M := []) Tryz.func140 rfl (by kernel_rfl) (Nat.le_of_ble_eq_true rfl) ?_; simp only [Tryz.results140, Tryz.ntmps140]
  cases bad
  · by_cases he : e = 0
    · simp only [nextC, he, Bool.false_eq_true, if_false, ne_eq, not_true_eq_false] at h
      simp (dsimp := false) only [go_sem, ↓reduceIte, Nat.reduceEqDiff, Nat.reduceLT, Nat.reduceAdd, Nat.reduceSub, Nat.reduceMul, Nat.reduceLeDiff, reduceCtorEq, Int.reduceNeg, Int.reduceToNat, Int.reduceLT, Int.reduceLE, Int.reduceGE, Int.reduceGT, Int.reduceEq, hk, he]
      exact h
    · simp only [nextC, he, Bool.false_eq_true, if_false, ne_eq, not_false_eq_true, if_true] at h
      simp (dsimp := false) only [go_sem, ↓reduceIte, Nat.reduceEqDiff, Nat.reduceLT, Nat.reduceAdd, Nat.reduceSub, Nat.reduceMul, Nat.reduceLeDiff, reduceCtorEq, Int.reduceNeg, Int.reduceToNat, Int.reduceLT, Int.reduceLE, Int.reduceGE, Int.reduceGT, Int.reduceEq, hk, he]
      exact h
  · simp only [nextC, if_true] at h
    simp (dsimp := false) only [go_sem, ↓reduceIte, Nat.reduceEqDiff, Nat.reduceLT, Nat.reduceAdd, Nat.reduceSub, Nat.reduceMul, Nat.reduceLeDiff, reduceCtorEq, Int.reduceNeg, Int.reduceToNat, Int.reduceLT, Int.reduceLE, Int.reduceGE, Int.reduceGT, Int.reduceEq, hk]
    exact h
/-- What the reader reads: the number even where it is bad. -/
def rNum (b : List UInt8) (size : Nat) (little : Bool) (s : Int × Bool) : Int × (Int × Bool) := ((readN b s.1 size little).1, nextC s (readN b s.1 size little).2.1 (readN b s.1 size little).2.2)
theorem rNum_ok {b : List UInt8} {size : Nat} {little : Bool} {s : Int × Bool} (h0 : 0 ≤ s.1) (h1 : s.1 ≤ b.length) : 0 ≤ (rNum b size little s).2.1 ∧ (rNum b size little s).2.1 ≤ b.length := cNum_ok (size := size) (little := little) h0 h1
theorem RNumber_own (b : List UInt8) (little : Bool) (s : Int × Bool) (k : Nat) (own : Own) (K : AV → Own → Prop) (hk : own k = some (rdO b little s)) (h0 : 0 ≤ s.1) (h1 : s.1 ≤ b.length) (hn : b.length ≤ 140737488355000)
    (h : K (.raw (.int .i64 (rNum b 4 little s).1)) (own.set k (rdO b little (rNum b 4 little s).2))) : AC Tryz.prog 79 [.raw (.pointer (some ⟨k, 0, none⟩))] own K := by
  have hk' := hk
  unfold rdO at hk
  refine AC.of_body (M := []) Tryz.func79 rfl (by kernel_rfl) (Nat.le_of_ble_eq_true rfl) ?_; simp only [Tryz.results79, Tryz.ntmps79]
  simp (dsimp := false) only [go_sem, ↓reduceIte, Nat.reduceEqDiff, Nat.reduceLT, Nat.reduceAdd, Nat.reduceSub, Nat.reduceMul, Nat.reduceLeDiff, reduceCtorEq, Int.reduceNeg, Int.reduceToNat, Int.reduceLT, Int.reduceLE, Int.reduceGE, Int.reduceGT, Int.reduceEq]
  refine AW.draw (M := []) [.v, .v, .v, .r, .v, .v, .v, .r, .v, .v, .v, .r, .e, .v, .v, .v, .v, .v, .v, .v] mixed (by kernel_rfl) ?_
  simp (dsimp := false) only [go_sem, ↓reduceIte, Nat.reduceEqDiff, Nat.reduceLT, Nat.reduceAdd, Nat.reduceSub, Nat.reduceMul, Nat.reduceLeDiff, reduceCtorEq, Int.reduceNeg, Int.reduceToNat, Int.reduceLT, Int.reduceLE, Int.reduceGE, Int.reduceGT, Int.reduceEq, hk]
  refine ACs.pure (rNumber_tot b s.1 little h0 h1 hn) ?_
  simp (dsimp := false) only [go_sem, ↓reduceIte, Nat.reduceEqDiff, Nat.reduceLT, Nat.reduceAdd, Nat.reduceSub, Nat.reduceMul, Nat.reduceLeDiff, reduceCtorEq, Int.reduceNeg, Int.reduceToNat, Int.reduceLT, Int.reduceLE, Int.reduceGE, Int.reduceGT, Int.reduceEq]
  refine ACs.of (move_own b little s k _ _ hk' _ _ ?_)
  simp (dsimp := false) only [go_sem, ↓reduceIte, Nat.reduceEqDiff, Nat.reduceLT, Nat.reduceAdd, Nat.reduceSub, Nat.reduceMul, Nat.reduceLeDiff, reduceCtorEq, Int.reduceNeg, Int.reduceToNat, Int.reduceLT, Int.reduceLE, Int.reduceGE, Int.reduceGT, Int.reduceEq]
  exact h
theorem RShort_own (b : List UInt8) (little : Bool) (s : Int × Bool) (k : Nat) (own : Own) (K : AV → Own → Prop) (hk : own k = some (rdO b little s)) (h0 : 0 ≤ s.1) (h1 : s.1 ≤ b.length) (hn : b.length ≤ 140737488355000)
    (h : K (.raw (.int .i64 (rNum b 2 little s).1)) (own.set k (rdO b little (rNum b 2 little s).2))) : AC Tryz.prog 85 [.raw (.pointer (some ⟨k, 0, none⟩))] own K := by
  have hk' := hk
  unfold rdO at hk
  refine AC.of_body (M := []) Tryz.func85 rfl (by kernel_rfl) (Nat.le_of_ble_eq_true rfl) ?_; simp only [Tryz.results85, Tryz.ntmps85]
  simp (dsimp := false) only [go_sem, ↓reduceIte, Nat.reduceEqDiff, Nat.reduceLT, Nat.reduceAdd, Nat.reduceSub, Nat.reduceMul, Nat.reduceLeDiff, reduceCtorEq, Int.reduceNeg, Int.reduceToNat, Int.reduceLT, Int.reduceLE, Int.reduceGE, Int.reduceGT, Int.reduceEq]
  refine AW.draw (M := []) [.v, .v, .v, .r, .v, .v, .v, .r, .v, .v, .v, .r, .e, .v, .v, .v, .v, .v, .v, .v] mixed (by kernel_rfl) ?_
  simp (dsimp := false) only [go_sem, ↓reduceIte, Nat.reduceEqDiff, Nat.reduceLT, Nat.reduceAdd, Nat.reduceSub, Nat.reduceMul, Nat.reduceLeDiff, reduceCtorEq, Int.reduceNeg, Int.reduceToNat, Int.reduceLT, Int.reduceLE, Int.reduceGE, Int.reduceGT, Int.reduceEq, hk]
  refine ACs.pure (rShort_tot b s.1 little h0 h1 hn) ?_
  simp (dsimp := false) only [go_sem, ↓reduceIte, Nat.reduceEqDiff, Nat.reduceLT, Nat.reduceAdd, Nat.reduceSub, Nat.reduceMul, Nat.reduceLeDiff, reduceCtorEq, Int.reduceNeg, Int.reduceToNat, Int.reduceLT, Int.reduceLE, Int.reduceGE, Int.reduceGT, Int.reduceEq]
  refine ACs.of (move_own b little s k _ _ hk' _ _ ?_)
  simp (dsimp := false) only [go_sem, ↓reduceIte, Nat.reduceEqDiff, Nat.reduceLT, Nat.reduceAdd, Nat.reduceSub, Nat.reduceMul, Nat.reduceLeDiff, reduceCtorEq, Int.reduceNeg, Int.reduceToNat, Int.reduceLT, Int.reduceLE, Int.reduceGE, Int.reduceGT, Int.reduceEq]
  exact h
theorem ROctet_own (b : List UInt8) (little : Bool) (s : Int × Bool) (k : Nat) (own : Own) (K : AV → Own → Prop) (hk : own k = some (rdO b little s)) (h0 : 0 ≤ s.1) (h1 : s.1 ≤ b.length) (hn : b.length ≤ 140737488355000)
    (h : K (.raw (.int .i64 (rNum b 1 false s).1)) (own.set k (rdO b little (rNum b 1 false s).2))) : AC Tryz.prog 80 [.raw (.pointer (some ⟨k, 0, none⟩))] own K := by
  have hk' := hk
  unfold rdO at hk
  refine AC.of_body (M := []) Tryz.func80 rfl (by kernel_rfl) (Nat.le_of_ble_eq_true rfl) ?_; simp only [Tryz.results80, Tryz.ntmps80]
  simp (dsimp := false) only [go_sem, ↓reduceIte, Nat.reduceEqDiff, Nat.reduceLT, Nat.reduceAdd, Nat.reduceSub, Nat.reduceMul, Nat.reduceLeDiff, reduceCtorEq, Int.reduceNeg, Int.reduceToNat, Int.reduceLT, Int.reduceLE, Int.reduceGE, Int.reduceGT, Int.reduceEq]
  refine AW.draw (M := []) [.v, .v, .v, .r, .v, .v, .v, .r, .e, .v, .v, .v, .v, .v, .v, .v] mixed (by kernel_rfl) ?_
  simp (dsimp := false) only [go_sem, ↓reduceIte, Nat.reduceEqDiff, Nat.reduceLT, Nat.reduceAdd, Nat.reduceSub, Nat.reduceMul, Nat.reduceLeDiff, reduceCtorEq, Int.reduceNeg, Int.reduceToNat, Int.reduceLT, Int.reduceLE, Int.reduceGE, Int.reduceGT, Int.reduceEq, hk]
  refine ACs.pure (rOctet_tot b s.1 h0 h1 hn) ?_
  simp (dsimp := false) only [go_sem, ↓reduceIte, Nat.reduceEqDiff, Nat.reduceLT, Nat.reduceAdd, Nat.reduceSub, Nat.reduceMul, Nat.reduceLeDiff, reduceCtorEq, Int.reduceNeg, Int.reduceToNat, Int.reduceLT, Int.reduceLE, Int.reduceGE, Int.reduceGT, Int.reduceEq]
  refine ACs.of (move_own b little s k _ _ hk' _ _ ?_)
  simp (dsimp := false) only [go_sem, ↓reduceIte, Nat.reduceEqDiff, Nat.reduceLT, Nat.reduceAdd, Nat.reduceSub, Nat.reduceMul, Nat.reduceLeDiff, reduceCtorEq, Int.reduceNeg, Int.reduceToNat, Int.reduceLT, Int.reduceLE, Int.reduceGE, Int.reduceGT, Int.reduceEq]
  exact h
def rTxt (b : List UInt8) (s : Int × Bool) : ByteArray × (Int × Bool) := ((textR b s.1).1, nextC s (textR b s.1).2.1 (textR b s.1).2.2)
theorem rTxt_ok {b : List UInt8} {s : Int × Bool} (h0 : 0 ≤ s.1) (h1 : s.1 ≤ b.length) : 0 ≤ (rTxt b s).2.1 ∧ (rTxt b s).2.1 ≤ b.length := nextC_ok h0 h1 textR_ok
theorem RText_own (b : List UInt8) (little : Bool) (s : Int × Bool) (k : Nat) (own : Own) (K : AV → Own → Prop) (hk : own k = some (rdO b little s)) (hn : b.length ≤ 140737488355000)
    (h : K (.raw (.string (rTxt b s).1)) (own.set k (rdO b little (rTxt b s).2))) : AC Tryz.prog 81 [.raw (.pointer (some ⟨k, 0, none⟩))] own K := by
  have hk' := hk
  unfold rdO at hk
  refine AC.of_body (M := []) Tryz.func81 rfl (by kernel_rfl) (Nat.le_of_ble_eq_true rfl) ?_; simp only [Tryz.results81, Tryz.ntmps81]
  simp (dsimp := false) only [go_sem, ↓reduceIte, Nat.reduceEqDiff, Nat.reduceLT, Nat.reduceAdd, Nat.reduceSub, Nat.reduceMul, Nat.reduceLeDiff, reduceCtorEq, Int.reduceNeg, Int.reduceToNat, Int.reduceLT, Int.reduceLE, Int.reduceGE, Int.reduceGT, Int.reduceEq]
  refine AW.draw (M := []) [.v, .v, .v, .r, .v, .v, .v, .r, .e, .v, .v, .v, .v, .v, .v, .v] mixed (by kernel_rfl) ?_
  simp (dsimp := false) only [go_sem, ↓reduceIte, Nat.reduceEqDiff, Nat.reduceLT, Nat.reduceAdd, Nat.reduceSub, Nat.reduceMul, Nat.reduceLeDiff, reduceCtorEq, Int.reduceNeg, Int.reduceToNat, Int.reduceLT, Int.reduceLE, Int.reduceGE, Int.reduceGT, Int.reduceEq, hk]
  refine ACs.pure (rText_pure b s.1 hn) ?_
  simp (dsimp := false) only [go_sem, ↓reduceIte, Nat.reduceEqDiff, Nat.reduceLT, Nat.reduceAdd, Nat.reduceSub, Nat.reduceMul, Nat.reduceLeDiff, reduceCtorEq, Int.reduceNeg, Int.reduceToNat, Int.reduceLT, Int.reduceLE, Int.reduceGE, Int.reduceGT, Int.reduceEq]
  refine ACs.of (move_own b little s k _ _ hk' _ _ ?_)
  simp (dsimp := false) only [go_sem, ↓reduceIte, Nat.reduceEqDiff, Nat.reduceLT, Nat.reduceAdd, Nat.reduceSub, Nat.reduceMul, Nat.reduceLeDiff, reduceCtorEq, Int.reduceNeg, Int.reduceToNat, Int.reduceLT, Int.reduceLE, Int.reduceGE, Int.reduceGT, Int.reduceEq]
  exact h
def rPrin (b : List UInt8) (s : Int × Bool) : (ByteArray × ByteArray × ByteArray) × (Int × Bool) :=
  ((((rTxt b s).1, (rTxt b (rTxt b s).2).1, (rTxt b (rTxt b (rTxt b s).2).2).1)), (rTxt b (rTxt b (rTxt b s).2).2).2)
theorem rPrin_ok {b : List UInt8} {s : Int × Bool} (h0 : 0 ≤ s.1) (h1 : s.1 ≤ b.length) : 0 ≤ (rPrin b s).2.1 ∧ (rPrin b s).2.1 ≤ b.length := by
  obtain ⟨a0, a1⟩ := rTxt_ok h0 h1
  obtain ⟨b0, b1⟩ := rTxt_ok a0 a1
  exact rTxt_ok b0 b1
theorem rPrin_small (b : List UInt8) (s : Int × Bool) : (rPrin b s).1.1.size ≤ 39 ∧ (rPrin b s).1.2.1.size ≤ 39 ∧ (rPrin b s).1.2.2.size ≤ 39 := ⟨textR_small _ _, textR_small _ _, textR_small _ _⟩
set_option maxHeartbeats 4000000 in
theorem RPrincipal_own (b : List UInt8) (little : Bool) (s : Int × Bool) (k : Nat) (own : Own) (K : AV → Own → Prop) (hk : own k = some (rdO b little s)) (hn : b.length ≤ 140737488355000)
    (h : K (prinA (rPrin b s).1) (own.set k (rdO b little (rPrin b s).2))) : AC Tryz.prog 78 [.raw (.pointer (some ⟨k, 0, none⟩))] own K := by
  refine AC.sub (own' := own.set k (rdO b little (rPrin b s).2)) (d0 := prinA (rPrin b s).1) ?_ h
  obtain ⟨⟨x1, s1⟩, e1⟩ : ∃ x, rTxt b s = x := ⟨_, rfl⟩
  obtain ⟨⟨x2, s2⟩, e2⟩ : ∃ x, rTxt b s1 = x := ⟨_, rfl⟩
  obtain ⟨⟨x3, s3⟩, e3⟩ : ∃ x, rTxt b s2 = x := ⟨_, rfl⟩
  have hP : rPrin b s = ((x1, x2, x3), s3) := by simp only [rPrin, e1, e2, e3]
  rw [hP]
  refine AC.of_body (M := []) Tryz.func78 rfl (by kernel_rfl) (Nat.le_of_ble_eq_true rfl) ?_; simp only [Tryz.results78, Tryz.ntmps78]
  simp (dsimp := false) only [go_sem, ↓reduceIte, Nat.reduceEqDiff, Nat.reduceLT, Nat.reduceAdd, Nat.reduceSub, Nat.reduceMul, Nat.reduceLeDiff, reduceCtorEq, Int.reduceNeg, Int.reduceToNat, Int.reduceLT, Int.reduceLE, Int.reduceGE, Int.reduceGT, Int.reduceEq]
  intro k1 hk1
  have m1 := some_ne hk hk1
  have a1 : ∀ (own : Own) o, (own.set k1 o) k = own k := fun own o => Own.set_ne _ _ (Ne.symm m1)
  have a2 : ∀ (own : Own) o, (own.set k o) k1 = own k1 := fun own o => Own.set_ne _ _ m1
  refine ACs.of (RText_own b little s k _ _ ((a1 _ _).trans hk) hn ?_)
  simp (dsimp := false) only [go_sem, ↓reduceIte, Nat.reduceEqDiff, Nat.reduceLT, Nat.reduceAdd, Nat.reduceSub, Nat.reduceMul, Nat.reduceLeDiff, reduceCtorEq, Int.reduceNeg, Int.reduceToNat, Int.reduceLT, Int.reduceLE, Int.reduceGE, Int.reduceGT, Int.reduceEq, e1]
  intro k2 hk2
  have hk2' := hk2
  rw [Own.set_ne _ _ (none_ne hk2)] at hk2'
  have m2 := none_ne hk2
  have m3 := none_ne hk2'
  rw [Own.set_ne _ _ m3] at hk2'
  have b1 : ∀ (own : Own) o, (own.set k2 o) k = own k := fun own o => Own.set_ne _ _ (Ne.symm m2)
  have b2 : ∀ (own : Own) o, (own.set k o) k2 = own k2 := fun own o => Own.set_ne _ _ m2
  have b3 : ∀ (own : Own) o, (own.set k2 o) k1 = own k1 := fun own o => Own.set_ne _ _ (Ne.symm m3)
  have b4 : ∀ (own : Own) o, (own.set k1 o) k2 = own k2 := fun own o => Own.set_ne _ _ m3
  refine ACs.of (RText_own b little s1 k _ _ ((b1 _ _).trans (Own.set_same _ _ _)) hn ?_)
  simp (dsimp := false) only [go_sem, ↓reduceIte, Nat.reduceEqDiff, Nat.reduceLT, Nat.reduceAdd, Nat.reduceSub, Nat.reduceMul, Nat.reduceLeDiff, reduceCtorEq, Int.reduceNeg, Int.reduceToNat, Int.reduceLT, Int.reduceLE, Int.reduceGE, Int.reduceGT, Int.reduceEq, e2, a1, a2, b1, b2, b3, b4]
  refine ACs.of (RText_own b little s2 k _ _ (by simp only [a1, a2, b1, b2, b3, b4, Own.set_same]) hn ?_)
  simp (dsimp := false) only [go_sem, ↓reduceIte, Nat.reduceEqDiff, Nat.reduceLT, Nat.reduceAdd, Nat.reduceSub, Nat.reduceMul, Nat.reduceLeDiff, reduceCtorEq, Int.reduceNeg, Int.reduceToNat, Int.reduceLT, Int.reduceLE, Int.reduceGE, Int.reduceGT, Int.reduceEq, e3, a1, a2, b1, b2, b3, b4]
  have f1 : ∀ o, (own.set k o) k1 = none := fun o => (a2 _ _).trans hk1
  have f2 : ∀ o, (own.set k o) k2 = none := fun o => (b2 _ _).trans hk2'
  exact ⟨rfl, Sub.fresh (f1 _) (Sub.fresh (f2 _) (Sub.over (SubX.fresh hk2' (SubX.here (SubX.fresh hk2' (SubX.here (SubX.fresh hk1 (SubX.refl _ _))))))))⟩
end Go.Proofs.YtghnigbihllnmaaGreat.Fn
