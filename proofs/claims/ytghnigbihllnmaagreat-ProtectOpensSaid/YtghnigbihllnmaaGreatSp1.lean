/- The bytes of numbers and texts, in plain Lean. No condition. -/
import Derived.Test.YtghnigbihllnmaaGreatHlC
set_option linter.unusedVariables false
set_option linter.unusedSimpArgs false
namespace Go.Proofs.YtghnigbihllnmaaGreat.Sp
/-- The least significant byte of a number. -/
def u8 (x : Int) : UInt8 := UInt8.ofNat (x % 256).toNat
/-- The least significant bytes of a number, the least significant one first. -/
def lowB (n : Int) (size : Nat) : List UInt8 := (List.range size).map fun i => u8 (n.fdiv (2 ^ (8 * i)))
def numB (n : Int) (size : Nat) (little : Bool) : List UInt8 := if little then lowB n size else (lowB n size).reverse
theorem u8_toNat (x : Int) : ((u8 x).toNat : Int) = x % 256 := by
  unfold u8
  have h1 : 0 ≤ x % 256 := Int.emod_nonneg _ (by decide)
  have h2 : x % 256 < 256 := Int.emod_lt_of_pos _ (by decide)
  rw [UInt8.toNat_ofNat']
  omega
theorem wrap_u8 (x : Int) : IntKind.u8.wrap x = ((u8 x).toNat : Int) := by
  rw [u8_toNat]
  unfold IntKind.wrap
  simp [IntKind.bits, IntKind.signed]
theorem lowB_length (n : Int) (size : Nat) : (lowB n size).length = size := by simp [lowB]
theorem numB_length (n : Int) (size : Nat) (little : Bool) : (numB n size little).length = size := by unfold numB; split <;> simp [lowB_length]
theorem lowB_get (n : Int) (size i : Nat) (h : i < size) : (lowB n size)[i]? = some (u8 (n.fdiv (2 ^ (8 * i)))) := by simp [lowB, h]
theorem wrap_i64 {x : Int} (h0 : -9223372036854775808 ≤ x) (h1 : x < 9223372036854775808) : IntKind.i64.wrap x = x := by
  unfold IntKind.wrap
  simp [IntKind.bits, IntKind.signed]
  omega
theorem wrap_u64 {x : Int} (h0 : 0 ≤ x) (h1 : x < 18446744073709551616) : IntKind.u64.wrap x = x := by
  unfold IntKind.wrap
  simp [IntKind.bits, IntKind.signed]
  omega
end Go.Proofs.YtghnigbihllnmaaGreat.Sp
