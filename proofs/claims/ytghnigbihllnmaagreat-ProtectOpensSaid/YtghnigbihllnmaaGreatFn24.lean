/- Keys as bytes. -/
import Derived.Test.YtghnigbihllnmaaGreatHlC
import Derived.Test.YtghnigbihllnmaaGreatSp1
import Derived.Test.YtghnigbihllnmaaGreatTy
import Derived.Test.YtghnigbihllnmaaGreatFn1
import Derived.Test.YtghnigbihllnmaaGreatFn2
import Derived.Test.YtghnigbihllnmaaGreatFn5
import Derived.Test.YtghnigbihllnmaaGreatFn16
import Derived.Test.YtghnigbihllnmaaGreatFn19
import Derived.Test.YtghnigbihllnmaaGreatFn20
set_option linter.unusedVariables false
set_option linter.unusedSimpArgs false
namespace Go.Proofs.YtghnigbihllnmaaGreat.Fn
open Go Hl Sp Ty
set_option maxRecDepth 100000

theorem set_ref (k : Int) (i : Nat) (h : i < 8) : ((refB k 8 false i ++ List.replicate (8 - i) 0).set i (u8 (k.fdiv (2 ^ (8 * (7 - i)))))) = refB k 8 false (i + 1) ++ List.replicate (8 - (i + 1)) 0 := by
  rw [List.set_append_right _ _ (by rw [refB_length]; exact Nat.le_refl _), refB_length, Nat.sub_self, show 8 - i = (8 - (i + 1)) + 1 by omega, List.replicate_succ, List.set_cons_zero, refB_succ]
  simp
set_option maxHeartbeats 4000000 in
theorem keyBytes_pure (k : Int) (h0 : 0 ≤ k) (h1 : k < 18446744073709551616) : PC Tryz.prog 154 [.raw (.int .u64 k)] (.lst 1 ((numB k 8 false).map byteA)) := by
  refine PC.of_row (by rw [numB_length]; omega) fun own K hK => ?_
  have hK2 := hK.2
  rw [numB_length] at hK2
  refine AC.of_body (M := []) Tryz.func154 rfl (by kernel_rfl) (Nat.le_of_ble_eq_true rfl) ?_; simp only [Tryz.results154, Tryz.ntmps154]
  simp (dsimp := false) only [go_sem, ↓reduceIte, Nat.reduceEqDiff, Nat.reduceLT, Nat.reduceAdd, Nat.reduceSub, Nat.reduceMul, Nat.reduceLeDiff, reduceCtorEq, Int.reduceNeg, Int.reduceToNat, Int.reduceLT, Int.reduceLE, Int.reduceGE, Int.reduceGT, Int.reduceEq]
  intro kk hk
  refine AW.loopJ (M := []) (X := Nat) (fun i => ⟨21 + 1, tmL [(0, .raw (.int .u64 k)), (3, .raw (.slice (some ⟨kk, 0, none⟩) 8 8)), (7, .raw (.int .i64 8)), (8, .raw (.int .i64 i))], own.set kk ⟨5, (refB k 8 false i ++ List.replicate (8 - i) 0).map byteA, 0, 8⟩⟩)
    (fun i => i ≤ 8) (fun i => 8 - i) 0 (Nat.zero_le _) ?_ ?_
  · (refine Ghost.same ?_; (repeat' (first | exact all_nil | refine all_cons ?_ ?_)) <;> (first | (simp (dsimp := false) only [go_sem, ↓reduceIte, Nat.reduceEqDiff, Nat.reduceLT, Nat.reduceAdd, Nat.reduceSub, Nat.reduceMul, Nat.reduceLeDiff, reduceCtorEq, Int.reduceNeg, Int.reduceToNat, Int.reduceLT, Int.reduceLE, Int.reduceGE, Int.reduceGT, Int.reduceEq]; done) | (simp (dsimp := false) only [go_sem, ↓reduceIte, Nat.reduceEqDiff, Nat.reduceLT, Nat.reduceAdd, Nat.reduceSub, Nat.reduceMul, Nat.reduceLeDiff, reduceCtorEq, Int.reduceNeg, Int.reduceToNat, Int.reduceLT, Int.reduceLE, Int.reduceGE, Int.reduceGT, Int.reduceEq]; rfl)))
  · intro i hi
    by_cases hlt : (i : Int) < 8
    · have e1 : IntKind.i64.wrap (8 * (i : Int)) = ((8 * i : Nat) : Int) := by rw [wrap_i64 (by omega) (by omega)]; omega
      have e1' : IntKind.i64.wrap (56 - ((8 * i : Nat) : Int)) = ((8 * (7 - i) : Nat) : Int) := by rw [wrap_i64 (by omega) (by omega)]; omega
      have e2 : IntKind.i64.wrap ((i : Int) + 1) = ((i + 1 : Nat) : Int) := by rw [wrap_i64 (by omega) (by omega)]; omega
      have e3 : min (8 * (7 - i)) 64 = 8 * (7 - i) := by omega
      have hsr := set_ref k i (by omega)
      have hb : ∀ x, AV.raw (.int .u8 ((u8 x).toNat : Int)) = byteA (u8 x) := fun _ => rfl
      simp (dsimp := false) only [go_sem, ↓reduceIte, Nat.reduceEqDiff, Nat.reduceLT, Nat.reduceAdd, Nat.reduceSub, Nat.reduceMul, Nat.reduceLeDiff, reduceCtorEq, Int.reduceNeg, Int.reduceToNat, Int.reduceLT, Int.reduceLE, Int.reduceGE, Int.reduceGT, Int.reduceEq, hlt, e1, e1', e2, e3, wrap_u8, hb, set_byte, hsr]
      refine ⟨by omega, by omega, by simp [refB_length]; omega, i + 1, by omega, ?_, by omega⟩
      (refine Ghost.same ?_; (repeat' (first | exact all_nil | refine all_cons ?_ ?_)) <;> (first | (simp (dsimp := false) only [go_sem, ↓reduceIte, Nat.reduceEqDiff, Nat.reduceLT, Nat.reduceAdd, Nat.reduceSub, Nat.reduceMul, Nat.reduceLeDiff, reduceCtorEq, Int.reduceNeg, Int.reduceToNat, Int.reduceLT, Int.reduceLE, Int.reduceGE, Int.reduceGT, Int.reduceEq]; done) | (simp (dsimp := false) only [go_sem, ↓reduceIte, Nat.reduceEqDiff, Nat.reduceLT, Nat.reduceAdd, Nat.reduceSub, Nat.reduceMul, Nat.reduceLeDiff, reduceCtorEq, Int.reduceNeg, Int.reduceToNat, Int.reduceLT, Int.reduceLE, Int.reduceGE, Int.reduceGT, Int.reduceEq]; rfl)))
    · have hi8 : i = 8 := by omega
      subst hi8
      have hf : refB k 8 false 8 ++ List.replicate (8 - 8) 0 = numB k 8 false := by rw [refB_all]; simp
      simp (dsimp := false) only [go_sem, ↓reduceIte, Nat.reduceEqDiff, Nat.reduceLT, Nat.reduceAdd, Nat.reduceSub, Nat.reduceMul, Nat.reduceLeDiff, reduceCtorEq, Int.reduceNeg, Int.reduceToNat, Int.reduceLT, Int.reduceLE, Int.reduceGE, Int.reduceGT, Int.reduceEq, hlt, hf]
      have := hK2 kk 8 hk (Nat.le_refl _)
      simpa using this
theorem read_key {k : Int} (h0 : 0 ≤ k) (h1 : k < 18446744073709551616) : ((readV (numB k 8 false) false : Nat) : Int) = k := by
  obtain ⟨m, rfl⟩ : ∃ m : Nat, k = m := ⟨k.toNat, by omega⟩
  rw [readV_num m 8 false (by have : (2 : Nat) ^ (8 * 8) = 18446744073709551616 := by decide
                              omega)]
/-- What a reader of a key reads. -/
def keyR (b : List UInt8) : Int × Bool := if b.length = 8 ∧ clsZ (readV b false : Nat) ≠ 0 then (((readV b false : Nat) : Int), true) else (0, false)
theorem readV_lt (b : List UInt8) (little : Bool) : readV b little < 2 ^ (8 * b.length) := by
  unfold readV
  split
  · exact readL_lt b
  · have := readL_lt b.reverse
    rwa [List.length_reverse] at this
theorem readL_app (c : UInt8) (l : List UInt8) : readL (c :: l) = c.toNat + 256 * readL l := rfl
theorem readV_snoc (l : List UInt8) (c : UInt8) : readV (l ++ [c]) false = 256 * readV l false + c.toNat := by
  simp [readV, readL]; omega
theorem or_u64 (a : Nat) (c : Nat) (hc : c < 256) (ha : a < 72057594037927936) : IntKind.u64.wrap ((BitVec.ofInt IntKind.u64.bits (IntKind.u64.wrap ((a : Int) * 2 ^ min 8 64)) ||| BitVec.ofInt IntKind.u64.bits (c : Int)).toNat : Nat) = ((256 * a + c : Nat) : Int) := by
  have e0 : IntKind.u64.wrap ((a : Int) * 2 ^ min 8 64) = ((2 ^ 8 * a : Nat) : Int) := by
    rw [show (2 : Int) ^ min 8 64 = 256 by decide, show (2 : Nat) ^ 8 = 256 by decide, wrap_u64 (by omega) (by omega)]; omega
  have e : IntKind.u64.bits = 64 := rfl
  rw [e0, BitVec.ofInt_natCast, BitVec.ofInt_natCast, BitVec.toNat_or, BitVec.toNat_ofNat, BitVec.toNat_ofNat, e]
  have h8 : (2 : Nat) ^ 8 = 256 := by decide
  have h64 : (2 : Nat) ^ 64 = 18446744073709551616 := by decide
  rw [Nat.mod_eq_of_lt (by omega), Nat.mod_eq_of_lt (by omega), ← Nat.two_pow_add_eq_or_of_lt (by omega)]
  rw [wrap_u64 (by omega) (by omega), h8]
set_option maxHeartbeats 4000000 in
theorem keyRead_pure (b : List UInt8) (hn : b.length ≤ 140737488355000) : PC Tryz.prog 151 [.lst 1 (b.map byteA)] (.tup [.raw (.int .u64 (keyR b).1), .raw (.bool (keyR b).2)]) := by
  refine PC.of_ac ?_
  refine AC.of_body (M := []) Tryz.func151 rfl (by kernel_rfl) (Nat.le_of_ble_eq_true rfl) ?_; simp only [Tryz.results151, Tryz.ntmps151]
  by_cases h8 : (b.length : Int) = 8
  · simp (dsimp := false) only [go_sem, ↓reduceIte, Nat.reduceEqDiff, Nat.reduceLT, Nat.reduceAdd, Nat.reduceSub, Nat.reduceMul, Nat.reduceLeDiff, reduceCtorEq, Int.reduceNeg, Int.reduceToNat, Int.reduceLT, Int.reduceLE, Int.reduceGE, Int.reduceGT, Int.reduceEq, h8]
    have hv := readV_lt b false
    have h64 : (2 : Nat) ^ (8 * b.length) = 18446744073709551616 := by rw [show b.length = 8 by omega]
    rw [h64] at hv
    refine AW.loopJ (M := []) (X := Nat) (fun i => ⟨26, tmL [(4, .raw (.int .u64 (readV (b.take i) false))), (10, .lst 1 (b.map byteA)), (11, .raw (.int .i64 8)), (12, .raw (.int .i64 i))], noOwn⟩)
      (fun i => i ≤ 8) (fun i => 8 - i) 0 (Nat.zero_le _) ?_ ?_
    · have : readV (b.take 0) false = 0 := rfl
      rw [this]
      (refine Ghost.same ?_; (repeat' (first | exact all_nil | refine all_cons ?_ ?_)) <;> (first | (simp (dsimp := false) only [go_sem, ↓reduceIte, Nat.reduceEqDiff, Nat.reduceLT, Nat.reduceAdd, Nat.reduceSub, Nat.reduceMul, Nat.reduceLeDiff, reduceCtorEq, Int.reduceNeg, Int.reduceToNat, Int.reduceLT, Int.reduceLE, Int.reduceGE, Int.reduceGT, Int.reduceEq]; done) | (simp (dsimp := false) only [go_sem, ↓reduceIte, Nat.reduceEqDiff, Nat.reduceLT, Nat.reduceAdd, Nat.reduceSub, Nat.reduceMul, Nat.reduceLeDiff, reduceCtorEq, Int.reduceNeg, Int.reduceToNat, Int.reduceLT, Int.reduceLE, Int.reduceGE, Int.reduceGT, Int.reduceEq]; rfl)))
    · intro i hi
      by_cases hlt : (i : Int) < 8
      · have e2 : IntKind.i64.wrap ((i : Int) + 1) = ((i + 1 : Nat) : Int) := by rw [wrap_i64 (by omega) (by omega)]; omega
        have hg : (b.map byteA).getD i .any = .raw (.int .u8 ((b.getD i 0).toNat)) := by rw [getD_byte (by omega)]; rfl
        have hc := (b.getD i 0).toNat_lt
        have htake : b.take (i + 1) = b.take i ++ [b.getD i 0] := by
          rw [List.take_add_one]
          simp [List.getD_eq_getElem?_getD, List.getElem?_eq_getElem (show i < b.length by omega)]
        have hvi := readV_lt (b.take i) false
        have hle : (2 : Nat) ^ (8 * (b.take i).length) ≤ 2 ^ 56 := Nat.pow_le_pow_right (by decide) (by simp; omega)
        have h56 : (2 : Nat) ^ 56 = 72057594037927936 := by decide
        have ho := or_u64 (readV (b.take i) false) (b.getD i 0).toNat hc (by omega)
        rw [← readV_snoc, ← htake] at ho
        have e3 : IntKind.u64.wrap ((b.getD i 0).toNat : Int) = (b.getD i 0).toNat := wrap_u64 (by omega) (by omega)
        simp (dsimp := false) only [go_sem, ↓reduceIte, Nat.reduceEqDiff, Nat.reduceLT, Nat.reduceAdd, Nat.reduceSub, Nat.reduceMul, Nat.reduceLeDiff, reduceCtorEq, Int.reduceNeg, Int.reduceToNat, Int.reduceLT, Int.reduceLE, Int.reduceGE, Int.reduceGT, Int.reduceEq, hlt, hg, e2, e3, ho, h8]
        refine ⟨by omega, i + 1, by omega, ?_, by omega⟩
        (refine Ghost.same ?_; (repeat' (first | exact all_nil | refine all_cons ?_ ?_)) <;> (first | (simp (dsimp := false) only [go_sem, ↓reduceIte, Nat.reduceEqDiff, Nat.reduceLT, Nat.reduceAdd, Nat.reduceSub, Nat.reduceMul, Nat.reduceLeDiff, reduceCtorEq, Int.reduceNeg, Int.reduceToNat, Int.reduceLT, Int.reduceLE, Int.reduceGE, Int.reduceGT, Int.reduceEq]; done) | (simp (dsimp := false) only [go_sem, ↓reduceIte, Nat.reduceEqDiff, Nat.reduceLT, Nat.reduceAdd, Nat.reduceSub, Nat.reduceMul, Nat.reduceLeDiff, reduceCtorEq, Int.reduceNeg, Int.reduceToNat, Int.reduceLT, Int.reduceLE, Int.reduceGE, Int.reduceGT, Int.reduceEq]; rfl)))
      · have hi8 : i = 8 := by omega
        subst hi8
        rw [List.take_of_length_le (by omega)]
        simp (dsimp := false) only [go_sem, ↓reduceIte, Nat.reduceEqDiff, Nat.reduceLT, Nat.reduceAdd, Nat.reduceSub, Nat.reduceMul, Nat.reduceLeDiff, reduceCtorEq, Int.reduceNeg, Int.reduceToNat, Int.reduceLT, Int.reduceLE, Int.reduceGE, Int.reduceGT, Int.reduceEq, hlt]
        refine ACs.pure (keyValid_pure _ (by omega) (by omega)) ?_
        by_cases hz : clsZ ((readV b false : Nat) : Int) = 0
        · simp (dsimp := false) only [go_sem, ↓reduceIte, Nat.reduceEqDiff, Nat.reduceLT, Nat.reduceAdd, Nat.reduceSub, Nat.reduceMul, Nat.reduceLeDiff, reduceCtorEq, Int.reduceNeg, Int.reduceToNat, Int.reduceLT, Int.reduceLE, Int.reduceGE, Int.reduceGT, Int.reduceEq, hz]
          rw [keyR, if_neg (fun h => h.2 hz)]
          (try trivial)
        · simp (dsimp := false) only [go_sem, ↓reduceIte, Nat.reduceEqDiff, Nat.reduceLT, Nat.reduceAdd, Nat.reduceSub, Nat.reduceMul, Nat.reduceLeDiff, reduceCtorEq, Int.reduceNeg, Int.reduceToNat, Int.reduceLT, Int.reduceLE, Int.reduceGE, Int.reduceGT, Int.reduceEq, hz]
          rw [keyR, if_pos ⟨by omega, hz⟩]
          (try trivial)
  · simp (dsimp := false) only [go_sem, ↓reduceIte, Nat.reduceEqDiff, Nat.reduceLT, Nat.reduceAdd, Nat.reduceSub, Nat.reduceMul, Nat.reduceLeDiff, reduceCtorEq, Int.reduceNeg, Int.reduceToNat, Int.reduceLT, Int.reduceLE, Int.reduceGE, Int.reduceGT, Int.reduceEq, h8]
    rw [keyR, if_neg (by omega)]
    (try trivial)
set_option maxHeartbeats 4000000 in
theorem rkeyRead_pure (b : List UInt8) (hn : b.length ≤ 140737488355000) : PC Tryz.prog 90 [.lst 1 (b.map byteA)] (.tup [.raw (.int .u64 (keyR b).1), .raw (.bool (keyR b).2)]) := by
  refine PC.of_ac ?_
  refine AC.of_body (M := []) Tryz.func90 rfl (by kernel_rfl) (Nat.le_of_ble_eq_true rfl) ?_; simp only [Tryz.results90, Tryz.ntmps90]
  by_cases h8 : (b.length : Int) = 8
  · simp (dsimp := false) only [go_sem, ↓reduceIte, Nat.reduceEqDiff, Nat.reduceLT, Nat.reduceAdd, Nat.reduceSub, Nat.reduceMul, Nat.reduceLeDiff, reduceCtorEq, Int.reduceNeg, Int.reduceToNat, Int.reduceLT, Int.reduceLE, Int.reduceGE, Int.reduceGT, Int.reduceEq, h8]
    have hv := readV_lt b false
    have h64 : (2 : Nat) ^ (8 * b.length) = 18446744073709551616 := by rw [show b.length = 8 by omega]
    rw [h64] at hv
    refine AW.loopJ (M := []) (X := Nat) (fun i => ⟨25, tmL [(0, .lst 1 (b.map byteA)), (4, .raw (.int .u64 (readV (b.take i) false))), (5, .raw (.int .i64 i))], noOwn⟩)
      (fun i => i ≤ 8) (fun i => 8 - i) 0 (Nat.zero_le _) ?_ ?_
    · have : readV (b.take 0) false = 0 := rfl
      rw [this]
      (refine Ghost.same ?_; (repeat' (first | exact all_nil | refine all_cons ?_ ?_)) <;> (first | (simp (dsimp := false) only [go_sem, ↓reduceIte, Nat.reduceEqDiff, Nat.reduceLT, Nat.reduceAdd, Nat.reduceSub, Nat.reduceMul, Nat.reduceLeDiff, reduceCtorEq, Int.reduceNeg, Int.reduceToNat, Int.reduceLT, Int.reduceLE, Int.reduceGE, Int.reduceGT, Int.reduceEq]; done) | (simp (dsimp := false) only [go_sem, ↓reduceIte, Nat.reduceEqDiff, Nat.reduceLT, Nat.reduceAdd, Nat.reduceSub, Nat.reduceMul, Nat.reduceLeDiff, reduceCtorEq, Int.reduceNeg, Int.reduceToNat, Int.reduceLT, Int.reduceLE, Int.reduceGE, Int.reduceGT, Int.reduceEq]; rfl)))
    · intro i hi
      by_cases hlt : (i : Int) < 8
      · have e2 : IntKind.i64.wrap ((i : Int) + 1) = ((i + 1 : Nat) : Int) := by rw [wrap_i64 (by omega) (by omega)]; omega
        have hg : (b.map byteA).getD i .any = .raw (.int .u8 ((b.getD i 0).toNat)) := by rw [getD_byte (by omega)]; rfl
        have hc := (b.getD i 0).toNat_lt
        have htake : b.take (i + 1) = b.take i ++ [b.getD i 0] := by
          rw [List.take_add_one]
          simp [List.getD_eq_getElem?_getD, List.getElem?_eq_getElem (show i < b.length by omega)]
        have hvi := readV_lt (b.take i) false
        have hle : (2 : Nat) ^ (8 * (b.take i).length) ≤ 2 ^ 56 := Nat.pow_le_pow_right (by decide) (by simp; omega)
        have h56 : (2 : Nat) ^ 56 = 72057594037927936 := by decide
        have ho := or_u64 (readV (b.take i) false) (b.getD i 0).toNat hc (by omega)
        rw [← readV_snoc, ← htake] at ho
        have e3 : IntKind.u64.wrap ((b.getD i 0).toNat : Int) = (b.getD i 0).toNat := wrap_u64 (by omega) (by omega)
        simp (dsimp := false) only [go_sem, ↓reduceIte, Nat.reduceEqDiff, Nat.reduceLT, Nat.reduceAdd, Nat.reduceSub, Nat.reduceMul, Nat.reduceLeDiff, reduceCtorEq, Int.reduceNeg, Int.reduceToNat, Int.reduceLT, Int.reduceLE, Int.reduceGE, Int.reduceGT, Int.reduceEq, hlt, hg, e2, e3, ho, h8]
        refine ⟨by omega, i + 1, by omega, ?_, by omega⟩
        (refine Ghost.same ?_; (repeat' (first | exact all_nil | refine all_cons ?_ ?_)) <;> (first | (simp (dsimp := false) only [go_sem, ↓reduceIte, Nat.reduceEqDiff, Nat.reduceLT, Nat.reduceAdd, Nat.reduceSub, Nat.reduceMul, Nat.reduceLeDiff, reduceCtorEq, Int.reduceNeg, Int.reduceToNat, Int.reduceLT, Int.reduceLE, Int.reduceGE, Int.reduceGT, Int.reduceEq]; done) | (simp (dsimp := false) only [go_sem, ↓reduceIte, Nat.reduceEqDiff, Nat.reduceLT, Nat.reduceAdd, Nat.reduceSub, Nat.reduceMul, Nat.reduceLeDiff, reduceCtorEq, Int.reduceNeg, Int.reduceToNat, Int.reduceLT, Int.reduceLE, Int.reduceGE, Int.reduceGT, Int.reduceEq]; rfl)))
      · have hi8 : i = 8 := by omega
        subst hi8
        rw [List.take_of_length_le (by omega)]
        simp (dsimp := false) only [go_sem, ↓reduceIte, Nat.reduceEqDiff, Nat.reduceLT, Nat.reduceAdd, Nat.reduceSub, Nat.reduceMul, Nat.reduceLeDiff, reduceCtorEq, Int.reduceNeg, Int.reduceToNat, Int.reduceLT, Int.reduceLE, Int.reduceGE, Int.reduceGT, Int.reduceEq, hlt]
        refine ACs.pure (rkeyValid_pure _ (by omega) (by omega)) ?_
        by_cases hz : clsZ ((readV b false : Nat) : Int) = 0
        · simp (dsimp := false) only [go_sem, ↓reduceIte, Nat.reduceEqDiff, Nat.reduceLT, Nat.reduceAdd, Nat.reduceSub, Nat.reduceMul, Nat.reduceLeDiff, reduceCtorEq, Int.reduceNeg, Int.reduceToNat, Int.reduceLT, Int.reduceLE, Int.reduceGE, Int.reduceGT, Int.reduceEq, hz]
          rw [keyR, if_neg (fun h => h.2 hz)]
          (try trivial)
        · simp (dsimp := false) only [go_sem, ↓reduceIte, Nat.reduceEqDiff, Nat.reduceLT, Nat.reduceAdd, Nat.reduceSub, Nat.reduceMul, Nat.reduceLeDiff, reduceCtorEq, Int.reduceNeg, Int.reduceToNat, Int.reduceLT, Int.reduceLE, Int.reduceGE, Int.reduceGT, Int.reduceEq, hz]
          rw [keyR, if_pos ⟨by omega, hz⟩]
          (try trivial)
  · simp (dsimp := false) only [go_sem, ↓reduceIte, Nat.reduceEqDiff, Nat.reduceLT, Nat.reduceAdd, Nat.reduceSub, Nat.reduceMul, Nat.reduceLeDiff, reduceCtorEq, Int.reduceNeg, Int.reduceToNat, Int.reduceLT, Int.reduceLE, Int.reduceGE, Int.reduceGT, Int.reduceEq, h8]
    rw [keyR, if_neg (by omega)]
    (try trivial)
set_option maxHeartbeats 4000000 in
theorem rkeyBytes_pure (k : Int) (h0 : 0 ≤ k) (h1 : k < 18446744073709551616) : PC Tryz.prog 68 [.raw (.int .u64 k)] (.lst 1 ((numB k 8 false).map byteA)) := by
  refine PC.post ?_
  refine AC.of_body (M := []) Tryz.func68 rfl (by kernel_rfl) (Nat.le_of_ble_eq_true rfl) ?_; simp only [Tryz.results68, Tryz.ntmps68]
  simp (dsimp := false) only [go_sem, ↓reduceIte, Nat.reduceEqDiff, Nat.reduceLT, Nat.reduceAdd, Nat.reduceSub, Nat.reduceMul, Nat.reduceLeDiff, reduceCtorEq, Int.reduceNeg, Int.reduceToNat, Int.reduceLT, Int.reduceLE, Int.reduceGE, Int.reduceGT, Int.reduceEq]
  have hb : ∀ x, AV.raw (.int .u8 ((u8 x).toNat : Int)) = byteA (u8 x) := fun _ => rfl
  refine AW.loopJ (M := []) (X := Option (Nat × Nat × Nat)) (fun x => match x with
      | none => ⟨19, tmL [(0, .raw (.int .u64 k)), (3, .raw (.slice none 0 0)), (4, .raw (.int .i64 7))], noOwn⟩
      | some (i, kk, c) => ⟨19, tmL [(0, .raw (.int .u64 k)), (3, .raw (.slice (some ⟨kk, 0, none⟩) i c)), (4, .raw (.int .i64 (7 - (i : Int))))], noOwn.set kk ⟨5, (refB k 8 false i).map byteA, 0, c⟩⟩)
    (fun x => match x with | none => True | some (i, _, c) => 1 ≤ i ∧ i ≤ 8 ∧ i ≤ c) (fun x => match x with | none => 9 | some (i, _, _) => 8 - i) none trivial ?_ ?_
  · (refine Ghost.same ?_; (repeat' (first | exact all_nil | refine all_cons ?_ ?_)) <;> (first | (simp (dsimp := false) only [go_sem, ↓reduceIte, Nat.reduceEqDiff, Nat.reduceLT, Nat.reduceAdd, Nat.reduceSub, Nat.reduceMul, Nat.reduceLeDiff, reduceCtorEq, Int.reduceNeg, Int.reduceToNat, Int.reduceLT, Int.reduceLE, Int.reduceGE, Int.reduceGT, Int.reduceEq]; done) | (simp (dsimp := false) only [go_sem, ↓reduceIte, Nat.reduceEqDiff, Nat.reduceLT, Nat.reduceAdd, Nat.reduceSub, Nat.reduceMul, Nat.reduceLeDiff, reduceCtorEq, Int.reduceNeg, Int.reduceToNat, Int.reduceLT, Int.reduceLE, Int.reduceGE, Int.reduceGT, Int.reduceEq]; rfl)))
  rintro (_ | ⟨i, kk, c⟩) hJ
  · have w1 : IntKind.i64.wrap (8 * 7) = 56 := by decide
    have w2 : IntKind.u64.wrap 56 = 56 := by decide
    have w3 : IntKind.i64.wrap (7 - 1) = 6 := by decide
    simp (dsimp := false) only [go_sem, ↓reduceIte, Nat.reduceEqDiff, Nat.reduceLT, Nat.reduceAdd, Nat.reduceSub, Nat.reduceMul, Nat.reduceLeDiff, reduceCtorEq, Int.reduceNeg, Int.reduceToNat, Int.reduceLT, Int.reduceLE, Int.reduceGE, Int.reduceGT, Int.reduceEq, w1, w2, w3, wrap_u8, hb]
    intro k1 c1 hk1 hc1
    refine ⟨some (1, k1, c1), ⟨by omega, by omega, hc1⟩, ?_, by simp only; omega⟩
    have hr : (refB k 8 false 1).map byteA = [byteA (u8 (k.fdiv (2 ^ min 56 64)))] := rfl
    simp only [hr]
    (refine Ghost.same ?_; (repeat' (first | exact all_nil | refine all_cons ?_ ?_)) <;> (first | (simp (dsimp := false) only [go_sem, ↓reduceIte, Nat.reduceEqDiff, Nat.reduceLT, Nat.reduceAdd, Nat.reduceSub, Nat.reduceMul, Nat.reduceLeDiff, reduceCtorEq, Int.reduceNeg, Int.reduceToNat, Int.reduceLT, Int.reduceLE, Int.reduceGE, Int.reduceGT, Int.reduceEq]; done) | (simp (dsimp := false) only [go_sem, ↓reduceIte, Nat.reduceEqDiff, Nat.reduceLT, Nat.reduceAdd, Nat.reduceSub, Nat.reduceMul, Nat.reduceLeDiff, reduceCtorEq, Int.reduceNeg, Int.reduceToNat, Int.reduceLT, Int.reduceLE, Int.reduceGE, Int.reduceGT, Int.reduceEq]; rfl)))
  · simp only at hJ
    by_cases h7 : 7 - (i : Int) ≥ 0
    · have w1 : IntKind.i64.wrap (8 * (7 - (i : Int))) = ((8 * (7 - i) : Nat) : Int) := by rw [wrap_i64 (by omega) (by omega)]; omega
      have w2 : IntKind.u64.wrap ((8 * (7 - i) : Nat) : Int) = ((8 * (7 - i) : Nat) : Int) := wrap_u64 (by omega) (by omega)
      have w3 : IntKind.i64.wrap (7 - (i : Int) - 1) = 7 - ((i + 1 : Nat) : Int) := by rw [wrap_i64 (by omega) (by omega)]; omega
      have w4 : min (8 * (7 - i)) 64 = 8 * (7 - i) := by omega
      have hl := refB_length k 8 false i
      simp (dsimp := false) only [go_sem, ↓reduceIte, Nat.reduceEqDiff, Nat.reduceLT, Nat.reduceAdd, Nat.reduceSub, Nat.reduceMul, Nat.reduceLeDiff, reduceCtorEq, Int.reduceNeg, Int.reduceToNat, Int.reduceLT, Int.reduceLE, Int.reduceGE, Int.reduceGT, Int.reduceEq, h7, w1, w2, w3, w4, wrap_u8, hb, hl]
      refine ⟨by omega, by omega, by omega, fun k' c' hk' hc' => ⟨some (i + 1, k', c'), ⟨by omega, by omega, hc'⟩, ?_, by simp only; omega⟩⟩
      have hmv := fun o o' => Own.set_move (own := noOwn) (k := kk) rfl k' o o'
      have hcs : (refB k 8 false i).map byteA ++ [byteA (u8 (k.fdiv (2 ^ (8 * (7 - i)))))] = (refB k 8 false (i + 1)).map byteA := by
        rw [refB_succ, List.map_append]; simp
      simp only [hmv, hcs]
      (refine Ghost.same ?_; (repeat' (first | exact all_nil | refine all_cons ?_ ?_)) <;> (first | (simp (dsimp := false) only [go_sem, ↓reduceIte, Nat.reduceEqDiff, Nat.reduceLT, Nat.reduceAdd, Nat.reduceSub, Nat.reduceMul, Nat.reduceLeDiff, reduceCtorEq, Int.reduceNeg, Int.reduceToNat, Int.reduceLT, Int.reduceLE, Int.reduceGE, Int.reduceGT, Int.reduceEq]; done) | (simp (dsimp := false) only [go_sem, ↓reduceIte, Nat.reduceEqDiff, Nat.reduceLT, Nat.reduceAdd, Nat.reduceSub, Nat.reduceMul, Nat.reduceLeDiff, reduceCtorEq, Int.reduceNeg, Int.reduceToNat, Int.reduceLT, Int.reduceLE, Int.reduceGE, Int.reduceGT, Int.reduceEq]; rfl)))
    · have hi8 : i = 8 := by omega
      simp (dsimp := false) only [go_sem, ↓reduceIte, Nat.reduceEqDiff, Nat.reduceLT, Nat.reduceAdd, Nat.reduceSub, Nat.reduceMul, Nat.reduceLeDiff, reduceCtorEq, Int.reduceNeg, Int.reduceToNat, Int.reduceLT, Int.reduceLE, Int.reduceGE, Int.reduceGT, Int.reduceEq, h7]
      subst hi8
      rw [refB_all]
      refine ⟨_, rowW _ kk c c 8 (numB k 8 false) [] (by rw [List.append_nil]; exact Own.set_same _ _ _) (by rw [numB_length]) hJ.2.2 (by decide)⟩
end Go.Proofs.YtghnigbihllnmaaGreat.Fn
