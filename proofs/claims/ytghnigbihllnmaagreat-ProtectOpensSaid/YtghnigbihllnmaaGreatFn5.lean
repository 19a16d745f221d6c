/- Contracts of field's readers of numbers. -/
import Derived.Test.YtghnigbihllnmaaGreatHlC
import Derived.Test.YtghnigbihllnmaaGreatSp1
import Derived.Test.YtghnigbihllnmaaGreatTy
import Derived.Test.YtghnigbihllnmaaGreatFn1
set_option linter.unusedVariables false
set_option linter.unusedSimpArgs false
namespace Go.Proofs.YtghnigbihllnmaaGreat.Fn
open Go Hl Sp Ty

set_option maxRecDepth 100000 in
theorem take_ok (b : List UInt8) (at_ n : Int) (h0 : 0 ≤ at_) (h1 : at_ ≤ b.length) (h2 : 0 ≤ n) (h3 : n ≤ (b.length : Int) - at_) (hn : b.length ≤ 140737488355000) :
    PC Tryz.prog 175 [.lst 1 (b.map byteA), .raw (.int .i64 at_), .raw (.int .i64 n)] (.tup [.lst 1 (((b.drop at_.toNat).take n.toNat).map byteA), .raw (.int .i64 (at_ + n)), .raw (.int .i64 0)]) := by
  refine PC.of_ac ?_
  refine AC.of_body (M := []) Tryz.func175 rfl (by kernel_rfl) (Nat.le_of_ble_eq_true rfl) ?_; simp only [Tryz.results175, Tryz.ntmps175]
  have c1 : ¬ at_ < 0 := by omega
  have c2 : ¬ at_ > (b.length : Int) := by omega
  have c3 : ¬ n < 0 := by omega
  have e1 : IntKind.i64.wrap ((b.length : Int) - at_) = b.length - at_ := wrap_i64 (by omega) (by omega)
  have e2 : IntKind.i64.wrap (at_ + n) = at_ + n := wrap_i64 (by omega) (by omega)
  have c4 : ¬ n > (b.length : Int) - at_ := by omega
  simp (dsimp := false) only [go_sem, ↓reduceIte, Nat.reduceEqDiff, Nat.reduceLT, Nat.reduceAdd, Nat.reduceSub, Nat.reduceMul, Nat.reduceLeDiff, reduceCtorEq, Int.reduceNeg, Int.reduceToNat, Int.reduceLT, Int.reduceLE, Int.reduceGE, Int.reduceGT, Int.reduceEq, c1, c2, c3, e1, e2, c4]
  refine ⟨by omega, ?_⟩
  rw [show (at_ + n).toNat - at_.toNat = n.toNat by omega]

theorem or_add (a b s : Nat) (ha : a < 2 ^ s) (hb : 2 ^ s * b + a < 2 ^ 63) : IntKind.i64.wrap ((BitVec.ofInt IntKind.i64.bits ((a : Nat) : Int) ||| BitVec.ofInt IntKind.i64.bits ((2 ^ s * b : Nat) : Int)).toNat : Nat) = ((2 ^ s * b + a : Nat) : Int) := by
  have e : IntKind.i64.bits = 64 := rfl
  rw [BitVec.ofInt_natCast, BitVec.ofInt_natCast, BitVec.toNat_or, BitVec.toNat_ofNat, BitVec.toNat_ofNat, e]
  have h63 : (2 : Nat) ^ 63 < 2 ^ 64 := by decide
  rw [Nat.mod_eq_of_lt (by omega), Nat.mod_eq_of_lt (by omega), Nat.or_comm, ← Nat.two_pow_add_eq_or_of_lt ha]
  rw [wrap_i64 (by omega) (by have : (2 : Nat) ^ 63 = 9223372036854775808 := by decide
                              omega)]

/-- The number that bytes tell, the least first. -/
def readL : List UInt8 → Nat
  | [] => 0
  | b :: l => b.toNat + 256 * readL l
def readV (l : List UInt8) (little : Bool) : Nat := if little then readL l else readL l.reverse
theorem readL_lt : ∀ l : List UInt8, readL l < 2 ^ (8 * l.length)
  | [] => by simp [readL]
  | b :: l => by
    have ih := readL_lt l
    have hb := b.toNat_lt
    simp only [readL, List.length_cons]
    rw [show 8 * (l.length + 1) = 8 * l.length + 8 by omega, Nat.pow_add, show (2 : Nat) ^ 8 = 256 by decide]
    generalize 2 ^ (8 * l.length) = q at *
    omega
theorem readL_snoc (b : UInt8) : ∀ l : List UInt8, readL (l ++ [b]) = 2 ^ (8 * l.length) * b.toNat + readL l
  | [] => by simp [readL]
  | c :: l => by
    simp only [List.cons_append, readL, readL_snoc b l, List.length_cons]
    rw [show 8 * (l.length + 1) = 8 * l.length + 8 by omega, Nat.pow_add, show (2 : Nat) ^ 8 = 256 by decide, Nat.mul_add, Nat.mul_comm (2 ^ (8 * l.length)) 256, Nat.mul_assoc]
    omega
theorem readL_low (m : Nat) : ∀ i : Nat, readL (lowB (m : Int) i) = m % 2 ^ (8 * i)
  | 0 => by simp [lowB, readL, Nat.mod_one]
  | i + 1 => by
    have e : lowB (m : Int) (i + 1) = lowB (m : Int) i ++ [u8 ((m : Int).fdiv (2 ^ (8 * i)))] := by simp [lowB, List.range_succ]
    rw [e, readL_snoc, lowB_length, readL_low m i]
    have h : (u8 ((m : Int).fdiv (2 ^ (8 * i)))).toNat = m / 2 ^ (8 * i) % 256 := by
      have h1 := u8_toNat ((m : Int).fdiv (2 ^ (8 * i)))
      rw [Int.fdiv_eq_ediv_of_nonneg _ (by exact_mod_cast Nat.zero_le _)] at h1 ⊢
      have h2 : ((m : Int) / (2 ^ (8 * i)) % 256) = ((m / 2 ^ (8 * i) % 256 : Nat) : Int) := by simp
      omega
    rw [h, Nat.mul_succ, Nat.pow_add, Nat.mod_mul, Nat.add_comm]

set_option maxRecDepth 100000 in
theorem read_ok (b : List UInt8) (at_ : Int) (size : Nat) (little : Bool) (h0 : 0 ≤ at_) (hs : size ≤ 4) (h3 : at_ + size ≤ b.length) (hn : b.length ≤ 140737488355000) :
    PC Tryz.prog 172 [.lst 1 (b.map byteA), .raw (.int .i64 at_), .raw (.int .i64 size), .raw (.bool little)]
      (.tup [.raw (.int .i64 (readV ((b.drop at_.toNat).take size) little)), .raw (.int .i64 (at_ + size)), .raw (.int .i64 0)]) := by
  refine PC.of_ac ?_
  refine AC.of_body (M := []) Tryz.func172 rfl (by kernel_rfl) (Nat.le_of_ble_eq_true rfl) ?_; simp only [Tryz.results172, Tryz.ntmps172]
  simp (dsimp := false) only [go_sem, ↓reduceIte, Nat.reduceEqDiff, Nat.reduceLT, Nat.reduceAdd, Nat.reduceSub, Nat.reduceMul, Nat.reduceLeDiff, reduceCtorEq, Int.reduceNeg, Int.reduceToNat, Int.reduceLT, Int.reduceLE, Int.reduceGE, Int.reduceGT, Int.reduceEq]
  have ht := take_ok b at_ size h0 (by omega) (by omega) (by omega) hn
  rw [Int.toNat_natCast] at ht
  refine ACs.pure ht ?_
  have hlen : ((b.drop at_.toNat).take size).length = size := by simp; omega
  generalize (b.drop at_.toNat).take size = l at *
  simp (dsimp := false) only [go_sem, ↓reduceIte, Nat.reduceEqDiff, Nat.reduceLT, Nat.reduceAdd, Nat.reduceSub, Nat.reduceMul, Nat.reduceLeDiff, reduceCtorEq, Int.reduceNeg, Int.reduceToNat, Int.reduceLT, Int.reduceLE, Int.reduceGE, Int.reduceGT, Int.reduceEq]
  refine AW.loopJ (M := []) (X := Nat) (fun i => ⟨51, tmL [(3, .raw (.bool little)), (12, .raw (.int .i64 (at_ + size))), (28, .lst 1 (l.map byteA)), (29, .raw (.int .i64 l.length)), (30, .raw (.int .i64 i)), (14, .raw (.int .i64 (readV (l.take i) little)))], noOwn⟩)
    (fun i => i ≤ l.length) (fun i => l.length - i) 0 (Nat.zero_le _) ?_ ?_
  · have : readV [] little = 0 := by cases little <;> rfl
    simp only [List.take_zero, this]
    (refine Ghost.same ?_; (repeat' (first | exact all_nil | refine all_cons ?_ ?_)) <;> (first | (simp (dsimp := false) only [go_sem, ↓reduceIte, Nat.reduceEqDiff, Nat.reduceLT, Nat.reduceAdd, Nat.reduceSub, Nat.reduceMul, Nat.reduceLeDiff, reduceCtorEq, Int.reduceNeg, Int.reduceToNat, Int.reduceLT, Int.reduceLE, Int.reduceGE, Int.reduceGT, Int.reduceEq]; done) | (simp (dsimp := false) only [go_sem, ↓reduceIte, Nat.reduceEqDiff, Nat.reduceLT, Nat.reduceAdd, Nat.reduceSub, Nat.reduceMul, Nat.reduceLeDiff, reduceCtorEq, Int.reduceNeg, Int.reduceToNat, Int.reduceLT, Int.reduceLE, Int.reduceGE, Int.reduceGT, Int.reduceEq]; rfl)))
  · intro i hi
    have hcond : ((i : Int) < (l.length : Int)) = (i < l.length) := by simp
    by_cases hlt : (i : Int) < (l.length : Int)
    · have e2 : IntKind.i64.wrap ((i : Int) + 1) = ((i + 1 : Nat) : Int) := by rw [wrap_i64 (by omega) (by omega)]; omega
      have hg : (l.map byteA).getD i .any = .raw (.int .u8 ((l.getD i 0).toNat)) := by rw [getD_byte (by omega)]; rfl
      have hc := (l.getD i 0).toNat_lt
      generalize hcd : l.getD i 0 = c at *
      have e3 : IntKind.i64.wrap (c.toNat : Int) = c.toNat := wrap_i64 (by omega) (by omega)
      have e4 : IntKind.i64.wrap (8 * (i : Int)) = ((8 * i : Nat) : Int) := by rw [wrap_i64 (by omega) (by omega)]; omega
      have htake : l.take (i + 1) = l.take i ++ [c] := by
        rw [List.take_add_one, ← hcd]
        simp [List.getD_eq_getElem?_getD, List.getElem?_eq_getElem (show i < l.length by omega)]
      have hxl : (l.take i).length = i := by simp; omega
      have hpow : 2 ^ (8 * i) ≤ 2 ^ 24 := Nat.pow_le_pow_right (by decide) (by omega)
      have h24 : (2 : Nat) ^ 24 = 16777216 := by decide
      have h63 : (2 : Nat) ^ 63 = 9223372036854775808 := by decide
      have h8 : (2 : Nat) ^ 8 = 256 := by decide
      cases little
      · have hf : IntKind.i64.wrap ↑(BitVec.ofInt IntKind.i64.bits (IntKind.i64.wrap (↑(readV (List.take i l) false) * 2 ^ min 8 64)) ||| BitVec.ofInt IntKind.i64.bits ↑c.toNat).toNat = ((readV (l.take (i + 1)) false : Nat) : Int) := by
          have hb := readL_lt (l.take i).reverse
          rw [List.length_reverse, hxl] at hb
          have hv : readV (l.take (i + 1)) false = 2 ^ 8 * readL (l.take i).reverse + c.toNat := by
            rw [htake]; simp [readV, readL]; omega
          have hw : IntKind.i64.wrap (↑(readV (List.take i l) false) * 2 ^ min 8 64) = ((2 ^ 8 * readL (l.take i).reverse : Nat) : Int) := by
            have : readV (List.take i l) false = readL (l.take i).reverse := rfl
            rw [this, show (2 : Int) ^ min 8 64 = 256 by decide, wrap_i64 (by omega) (by omega)]
            omega
          rw [hv, hw, BitVec.or_comm]
          exact or_add c.toNat (readL (l.take i).reverse) 8 hc (by omega)
        simp (dsimp := false) only [go_sem, ↓reduceIte, Nat.reduceEqDiff, Nat.reduceLT, Nat.reduceAdd, Nat.reduceSub, Nat.reduceMul, Nat.reduceLeDiff, reduceCtorEq, Int.reduceNeg, Int.reduceToNat, Int.reduceLT, Int.reduceLE, Int.reduceGE, Int.reduceGT, Int.reduceEq, hlt, e2, hg, e3, e4, hf]
        refine ⟨by omega, i + 1, by omega, ?_, by omega⟩
        (refine Ghost.same ?_; (repeat' (first | exact all_nil | refine all_cons ?_ ?_)) <;> (first | (simp (dsimp := false) only [go_sem, ↓reduceIte, Nat.reduceEqDiff, Nat.reduceLT, Nat.reduceAdd, Nat.reduceSub, Nat.reduceMul, Nat.reduceLeDiff, reduceCtorEq, Int.reduceNeg, Int.reduceToNat, Int.reduceLT, Int.reduceLE, Int.reduceGE, Int.reduceGT, Int.reduceEq]; done) | (simp (dsimp := false) only [go_sem, ↓reduceIte, Nat.reduceEqDiff, Nat.reduceLT, Nat.reduceAdd, Nat.reduceSub, Nat.reduceMul, Nat.reduceLeDiff, reduceCtorEq, Int.reduceNeg, Int.reduceToNat, Int.reduceLT, Int.reduceLE, Int.reduceGE, Int.reduceGT, Int.reduceEq]; rfl)))
      · have hf : IntKind.i64.wrap ↑(BitVec.ofInt IntKind.i64.bits ↑(readV (List.take i l) true) ||| BitVec.ofInt IntKind.i64.bits (IntKind.i64.wrap (↑c.toNat * 2 ^ min (8 * i) 64))).toNat = ((readV (l.take (i + 1)) true : Nat) : Int) := by
          have hb := readL_lt (l.take i)
          rw [hxl] at hb
          have hv : readV (l.take (i + 1)) true = 2 ^ (8 * i) * c.toNat + readL (l.take i) := by
            rw [htake]; simp only [readV, if_true]; rw [readL_snoc, hxl]
          have hm : 2 ^ (8 * i) * c.toNat ≤ 2 ^ 24 * 255 := Nat.mul_le_mul hpow (by omega)
          have hw : IntKind.i64.wrap (↑c.toNat * 2 ^ min (8 * i) 64) = ((2 ^ (8 * i) * c.toNat : Nat) : Int) := by
            rw [show min (8 * i) 64 = 8 * i by omega]
            have : (c.toNat : Int) * 2 ^ (8 * i) = ((2 ^ (8 * i) * c.toNat : Nat) : Int) := by rw [Int.natCast_mul, Int.natCast_pow]; exact Int.mul_comm _ _
            rw [this, wrap_i64 (by omega) (by omega)]
          rw [hv, hw]
          exact or_add (readL (l.take i)) c.toNat (8 * i) hb (by omega)
        simp (dsimp := false) only [go_sem, ↓reduceIte, Nat.reduceEqDiff, Nat.reduceLT, Nat.reduceAdd, Nat.reduceSub, Nat.reduceMul, Nat.reduceLeDiff, reduceCtorEq, Int.reduceNeg, Int.reduceToNat, Int.reduceLT, Int.reduceLE, Int.reduceGE, Int.reduceGT, Int.reduceEq, hlt, e2, hg, e3, e4, hf]
        refine ⟨by omega, by omega, i + 1, by omega, ?_, by omega⟩
        (refine Ghost.same ?_; (repeat' (first | exact all_nil | refine all_cons ?_ ?_)) <;> (first | (simp (dsimp := false) only [go_sem, ↓reduceIte, Nat.reduceEqDiff, Nat.reduceLT, Nat.reduceAdd, Nat.reduceSub, Nat.reduceMul, Nat.reduceLeDiff, reduceCtorEq, Int.reduceNeg, Int.reduceToNat, Int.reduceLT, Int.reduceLE, Int.reduceGE, Int.reduceGT, Int.reduceEq]; done) | (simp (dsimp := false) only [go_sem, ↓reduceIte, Nat.reduceEqDiff, Nat.reduceLT, Nat.reduceAdd, Nat.reduceSub, Nat.reduceMul, Nat.reduceLeDiff, reduceCtorEq, Int.reduceNeg, Int.reduceToNat, Int.reduceLT, Int.reduceLE, Int.reduceGE, Int.reduceGT, Int.reduceEq]; rfl)))
    · simp (dsimp := false) only [go_sem, ↓reduceIte, Nat.reduceEqDiff, Nat.reduceLT, Nat.reduceAdd, Nat.reduceSub, Nat.reduceMul, Nat.reduceLeDiff, reduceCtorEq, Int.reduceNeg, Int.reduceToNat, Int.reduceLT, Int.reduceLE, Int.reduceGE, Int.reduceGT, Int.reduceEq, hlt]
      rw [List.take_of_length_le (by omega)]
end Go.Proofs.YtghnigbihllnmaaGreat.Fn
