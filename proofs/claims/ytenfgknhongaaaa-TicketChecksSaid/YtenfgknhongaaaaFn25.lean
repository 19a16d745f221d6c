/- The reference's reader of fields. -/
import Derived.Test.YtenfgknhongaaaaFn24
set_option linter.unusedVariables false
set_option linter.unusedSimpArgs false
namespace Go.Proofs.Ytenfgknhongaaaa.Fn
open Go Hl Sp Ty
set_option maxRecDepth 100000

/-- What is there but k is there later, too. -/
def SubX (k : Nat) (a b : Own) : Prop := ∀ j o, j ≠ k → a j = some o → b j = some o
theorem SubX.refl (k : Nat) (a : Own) : SubX k a a := fun _ _ _ h => h
theorem SubX.here {k : Nat} {a b : Own} {o : OB} (h : SubX k a b) : SubX k a (b.set k o) := fun j q hj hq => by
  rw [Own.set_ne _ _ hj]; exact h j q hj hq
theorem SubX.fresh {k k' : Nat} {a b : Own} {o : OB} (hk : a k' = none) (h : SubX k a b) : SubX k a (b.set k' o) := fun j q hj hq => by
  have : j ≠ k' := fun e => by rw [e, hk] at hq; cases hq
  rw [Own.set_ne _ _ this]; exact h j q hj hq
theorem Sub.over {k : Nat} {a b : Own} {o : OB} (h : SubX k a b) : Hl.Sub (a.set k o) (b.set k o) := fun j q hq => by
  by_cases hj : j = k
  · rw [hj, Own.set_same] at hq ⊢; exact hq
  · rw [Own.set_ne _ _ hj] at hq ⊢; exact h j q hj hq
def bytesR (b : List UInt8) (at_ n : Int) : List UInt8 × Int × Int := if at_ + n ≤ b.length then ((b.drop at_.toNat).take n.toNat, at_ + n, 0) else ([], 0, 101)
theorem bytesR_len {b : List UInt8} {at_ n : Int} (h0 : 0 ≤ at_) (h2 : 0 ≤ n) (h : (bytesR b at_ n).2.2 = 0) : at_ + n ≤ b.length ∧ (bytesR b at_ n).1 = (b.drop at_.toNat).take n.toNat ∧ (bytesR b at_ n).2.1 = at_ + n := by
  unfold bytesR at *
  split at h
  · rename_i hc
    rw [if_pos hc]
    exact ⟨hc, rfl, rfl⟩
  · simp at h

/-- The number of i of the bytes, the reference's way. -/
def refV (l : List UInt8) (little : Bool) (i : Nat) : Nat := if little then readL (l.drop (l.length - i)) else readL (l.take i).reverse
theorem refV_all (l : List UInt8) (little : Bool) : refV l little l.length = readV l little := by
  unfold refV readV
  cases little
  · simp
  · simp
theorem refV_succ (l : List UInt8) (little : Bool) (i : Nat) (h : i < l.length) : refV l little (i + 1) = 256 * refV l little i + (l.getD (if little then l.length - 1 - i else i) 0).toNat := by
  unfold refV
  cases little
  · have htake : l.take (i + 1) = l.take i ++ [l.getD i 0] := by
      rw [List.take_add_one]
      simp [List.getD_eq_getElem?_getD, List.getElem?_eq_getElem h]
    simp only [Bool.false_eq_true, if_false, htake]
    simp [readL]; omega
  · simp only [if_true]
    have hlt : l.length - (i + 1) < l.length := by omega
    have : l.drop (l.length - (i + 1)) = l.getD (l.length - 1 - i) 0 :: l.drop (l.length - i) := by
      rw [List.drop_eq_getElem_cons hlt, show l.length - (i + 1) + 1 = l.length - i by omega]
      congr 1
      rw [List.getD_eq_getElem?_getD, show l.length - 1 - i = l.length - (i + 1) by omega, List.getElem?_eq_getElem hlt]
      rfl
    rw [this, readL]; omega
theorem refV_lt (l : List UInt8) (little : Bool) (i : Nat) (h : i ≤ l.length) : refV l little i < 2 ^ (8 * i) := by
  unfold refV
  cases little
  · have := readL_lt (l.take i).reverse
    simp only [List.length_reverse, List.length_take, Nat.min_eq_left h] at this
    simpa using this
  · have := readL_lt (l.drop (l.length - i))
    simp only [List.length_drop, show l.length - (l.length - i) = i by omega] at this
    simpa using this
theorem or_i64 (a : Nat) (c : Nat) (hc : c < 256) (ha : a < 16777216) : IntKind.i64.wrap ((BitVec.ofInt IntKind.i64.bits (IntKind.i64.wrap ((a : Int) * 2 ^ min 8 64)) ||| BitVec.ofInt IntKind.i64.bits (c : Int)).toNat : Nat) = ((256 * a + c : Nat) : Int) := by
  have e0 : IntKind.i64.wrap ((a : Int) * 2 ^ min 8 64) = ((2 ^ 8 * a : Nat) : Int) := by
    rw [show (2 : Int) ^ min 8 64 = 256 by decide, show (2 : Nat) ^ 8 = 256 by decide, wrap_i64 (by omega) (by omega)]; omega
  have h8 : (2 : Nat) ^ 8 = 256 := by decide
  have h63 : (2 : Nat) ^ 63 = 9223372036854775808 := by decide
  rw [e0, BitVec.or_comm, or_add c a 8 (by omega) (by omega), h8]

end Go.Proofs.Ytenfgknhongaaaa.Fn
