/- Keys as bytes. -/
import Derived.Test.YtenfgknhongaaaaFn21
set_option linter.unusedVariables false
set_option linter.unusedSimpArgs false
namespace Go.Proofs.Ytenfgknhongaaaa.Fn
open Go Hl Sp Ty
set_option maxRecDepth 100000

theorem set_ref (k : Int) (i : Nat) (h : i < 8) : ((refB k 8 false i ++ List.replicate (8 - i) 0).set i (u8 (k.fdiv (2 ^ (8 * (7 - i)))))) = refB k 8 false (i + 1) ++ List.replicate (8 - (i + 1)) 0 := by
  rw [List.set_append_right _ _ (by rw [refB_length]; exact Nat.le_refl _), refB_length, Nat.sub_self, show 8 - i = (8 - (i + 1)) + 1 by omega, List.replicate_succ, List.set_cons_zero, refB_succ]
  simp
set_option maxHeartbeats 4000000 in
theorem keyBytes_pure (k : Int) (h0 : 0 ≤ k) (h1 : k < 18446744073709551616) : PC Try.prog 128 [.raw (.int .u64 k)] (.lst 1 ((numB k 8 false).map byteA)) := by
  refine PC.of_row (by rw [numB_length]; omega) fun own K hK => ?_
  have hK2 := hK.2
  rw [numB_length] at hK2
  refine AC.of_body (M := []) Try.func128 rfl (by kernel_rfl) (Nat.le_of_ble_eq_true rfl) ?_; simp only [Try.results128, Try.ntmps128]
  simp (dsimp := false) only [go_sem, ↓reduceIte, Nat.reduceEqDiff, Nat.reduceLT, Nat.reduceAdd, Nat.reduceSub, Nat.reduceMul, Nat.reduceLeDiff, reduceCtorEq, Int.reduceNeg, Int.reduceToNat, Int.reduceLT, Int.reduceLE, Int.reduceGE, Int.reduceGT, Int.reduceEq]
  intro kk hk
  refine AW.loopJ (M := []) (X := Nat) (fun i => ⟨21 + 1, tmL [(0, .raw (.int .u64 k)), (3, .raw (.slice (some ⟨kk, 0, none⟩) 8 8)), (7, .raw (.int .i64 8)), (8, .raw (.int .i64 i))], own.set kk ⟨5, (refB k 8 false i ++ List.replicate (8 - i) 0).map byteA, 0, 8⟩⟩)
    (fun i => i ≤ 8) (fun i => 8 - i) 0 (Nat.zero_le _) ?_ ?_
  · (refine Ghost.same ?_; (repeat' (first | exact all_nil | refine all_cons ?_ ?_)) <;> (first | (simp (dsimp := false) only [go_sem, ↓reduceIte, Nat.reduceEqDiff, Nat.reduceLT, Nat.reduceAdd, Nat.reduceSub, Nat.reduceMul, Nat.reduceLeDiff, reduceCtorEq, Int.reduceNeg, Int.reduceToNat, Int.reduceLT, Int.reduceLE, Int.reduceGE, Int.reduceGT, Int.reduceEq]; done) | (simp (dsimp := false) only [go_sem, ↓reduceIte, Nat.reduceEqDiff, Nat.reduceLT, Nat.reduceAdd, Nat.reduceSub, Nat.reduceMul, Nat.reduceLeDiff, reduceCtorEq, Int.reduceNeg, Int.reduceToNat, Int.reduceLT, Int.reduceLE, Int.reduceGE, Int.reduceGT, Int.reduceEq]; rfl)))
  · intro i hi
    by_cases hlt : (i : Int) < 8
    · have e1 : IntKind.i64.wrap (8 * (i : Int)) = ((8 * i : Nat) : Int) := by rw [wrap_i64 (by omega) (by omega)]; omega
      have e1' : IntKind.i64.wrap (56 - ((8 * i : Nat) : Int)) = ((8 * (7 - i) : Nat) : Int) := by rw [wrap_i64 (by omega) (by omega)]; omega
      have e2 : IntKind.i64.wrap ((i : Int) + 1) = ((i + 1 : Nat) : Int) := by rw [wrap_i64 (by omega) (by omega)]; omega
      have e3 : min (8 * (7 - i)) 64 = 8 * (7 - i) := by omega
      have hsr := set_ref k i (by omega)
      have hb : ∀ x, AV.raw (.int .u8 ((u8 x).toNat : Int)) = byteA (u8 x) := fun _ => rfl
      simp (dsimp := false) only [go_sem, ↓reduceIte, Nat.reduceEqDiff, Nat.reduceLT, Nat.reduceAdd, Nat.reduceSub, Nat.reduceMul, Nat.reduceLeDiff, reduceCtorEq, Int.reduceNeg, Int.reduceToNat, Int.reduceLT, Int.reduceLE, Int.reduceGE, Int.reduceGT, Int.reduceEq, hlt, e1, e1', e2, e3, wrap_u8, hb, set_byte, hsr]
      refine ⟨by omega, by omega, by simp [refB_length]; omega, i + 1, by omega, ?_, by omega⟩
      (refine Ghost.same ?_; (repeat' (first | exact all_nil | refine all_cons ?_ ?_)) <;> (first | (simp (dsimp := false) only [go_sem, ↓reduceIte, Nat.reduceEqDiff, Nat.reduceLT, Nat.reduceAdd, Nat.reduceSub, Nat.reduceMul, Nat.reduceLeDiff, reduceCtorEq, Int.reduceNeg, Int.reduceToNat, Int.reduceLT, Int.reduceLE, Int.reduceGE, Int.reduceGT, Int.reduceEq]; done) | (simp (dsimp := false) only [go_sem, ↓reduceIte, Nat.reduceEqDiff, Nat.reduceLT, Nat.reduceAdd, Nat.reduceSub, Nat.reduceMul, Nat.reduceLeDiff, reduceCtorEq, Int.reduceNeg, Int.reduceToNat, Int.reduceLT, Int.reduceLE, Int.reduceGE, Int.reduceGT, Int.reduceEq]; rfl)))
    · have hi8 : i = 8 := by omega
      subst hi8
      have hf : refB k 8 false 8 ++ List.replicate (8 - 8) 0 = numB k 8 false := by rw [refB_all]; simp
      simp (dsimp := false) only [go_sem, ↓reduceIte, Nat.reduceEqDiff, Nat.reduceLT, Nat.reduceAdd, Nat.reduceSub, Nat.reduceMul, Nat.reduceLeDiff, reduceCtorEq, Int.reduceNeg, Int.reduceToNat, Int.reduceLT, Int.reduceLE, Int.reduceGE, Int.reduceGT, Int.reduceEq, hlt, hf]
      have := hK2 kk 8 hk (Nat.le_refl _)
      simpa using this
theorem read_key {k : Int} (h0 : 0 ≤ k) (h1 : k < 18446744073709551616) : ((readV (numB k 8 false) false : Nat) : Int) = k := by
  obtain ⟨m, rfl⟩ : ∃ m : Nat, k = m := ⟨k.toNat, by omega⟩
  rw [readV_num m 8 false (by have : (2 : Nat) ^ (8 * 8) = 18446744073709551616 := by decide
                              omega)]
/-- What a reader of a key reads. -/
def keyR (b : List UInt8) : Int × Bool := if b.length = 8 ∧ clsZ (readV b false : Nat) ≠ 0 then (((readV b false : Nat) : Int), true) else (0, false)
theorem readV_lt (b : List UInt8) (little : Bool) : readV b little < 2 ^ (8 * b.length) := by
  unfold readV
  split
  · exact readL_lt b
  · have := readL_lt b.reverse
    rwa [List.length_reverse] at this
theorem readL_app (c : UInt8) (l : List UInt8) : readL (c :: l) = c.toNat + 256 * readL l := rfl
theorem readV_snoc (l : List UInt8) (c : UInt8) : readV (l ++ [c]) false = 256 * readV l false + c.toNat := by
  simp [readV, readL]; omega
theorem or_u64 (a : Nat) (c : Nat) (hc : c < 256) (ha : a < 72057594037927936) : IntKind.u64.wrap ((BitVec.ofInt IntKind.u64.bits (IntKind.u64.wrap ((a : Int) * 2 ^ min 8 64)) ||| BitVec.ofInt IntKind.u64.bits (c : Int)).toNat : Nat) = ((256 * a + c : Nat) : Int) := by
  have e0 : IntKind.u64.wrap ((a : Int) * 2 ^ min 8 64) = ((2 ^ 8 * a : Nat) : Int) := by
    rw [show (2 : Int) ^ min 8 64 = 256 by decide, show (2 : Nat) ^ 8 = 256 by decide, wrap_u64 (by omega) (by omega)]; omega
  have e : IntKind.u64.bits = 64 := rfl
  rw [e0, BitVec.ofInt_natCast, BitVec.ofInt_natCast, BitVec.toNat_or, BitVec.toNat_ofNat, BitVec.toNat_ofNat, e]
  have h8 : (2 : Nat) ^ 8 = 256 := by decide
  have h64 : (2 : Nat) ^ 64 = 18446744073709551616 := by decide
  rw [Nat.mod_eq_of_lt (by omega), Nat.mod_eq_of_lt (by omega), ← Nat.two_pow_add_eq_or_of_lt (by omega)]
  rw [wrap_u64 (by omega) (by omega), h8]
end Go.Proofs.Ytenfgknhongaaaa.Fn
