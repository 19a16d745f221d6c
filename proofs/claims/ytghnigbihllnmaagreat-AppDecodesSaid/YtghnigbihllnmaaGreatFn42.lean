/- The law on error replies. -/
import Derived.Test.YtghnigbihllnmaaGreatFn41
import Derived.Test.YtghnigbihllnmaaGreatFn40
import Derived.Test.YtghnigbihllnmaaGreatFn11
set_option linter.unusedVariables false
set_option linter.unusedSimpArgs false
namespace Go.Proofs.YtghnigbihllnmaaGreat.Fn
open Go Hl Sp Ty
set_option maxRecDepth 100000
def msgL : List ByteArray := [⟨#[99, 108, 105, 101, 110, 116, 32, 101, 120, 112, 105, 114, 101, 100]⟩, ⟨#[115, 101, 114, 118, 105, 99, 101, 32, 101, 120, 112, 105, 114, 101, 100]⟩, ⟨#[110, 111, 32, 108, 105, 102, 101, 116, 105, 109, 101, 32, 108, 101, 102, 116]⟩, ⟨#[112, 114, 111, 116, 111, 99, 111, 108, 32, 118, 101, 114, 115, 105, 111, 110]⟩, ⟨#[110, 111, 116, 32, 97, 32, 99, 108, 105, 101, 110, 116]⟩, ⟨#[110, 111, 116, 32, 97, 32, 115, 101, 114, 118, 105, 99, 101]⟩, ⟨#[98, 121, 116, 101, 32, 111, 114, 100, 101, 114]⟩, ⟨#[112, 114, 105, 110, 99, 105, 112, 97, 108, 32, 117, 110, 107, 110, 111, 119, 110]⟩, ⟨#[112, 114, 105, 110, 99, 105, 112, 97, 108, 32, 110, 111, 116, 32, 117, 110, 105, 113, 117, 101]⟩, ⟨#[110, 111, 32, 107, 101, 121]⟩]
def msgS (c : Int) : ByteArray := if c < 1 ∨ c > 10 then ⟨#[114, 101, 113, 117, 101, 115, 116, 32, 114, 101, 102, 117, 115, 101, 100]⟩ else msgL.getD (c - 1).toNat ⟨#[]⟩
theorem msgS_size (c : Int) : (msgS c).size ≤ 39 := by
  unfold msgS
  split
  · decide
  · generalize (c - 1).toNat = m
    match m with
    | 0 | 1 | 2 | 3 | 4 | 5 | 6 | 7 | 8 | 9 => decide
    | m + 10 => exact Nat.zero_le _
theorem ten {c : Int} (h : 1 ≤ c) (h' : c ≤ 10) : c = 1 ∨ c = 2 ∨ c = 3 ∨ c = 4 ∨ c = 5 ∨ c = 6 ∨ c = 7 ∨ c = 8 ∨ c = 9 ∨ c = 10 := by omega
theorem errB_length (lt : Bool) (n i r : ByteArray) (tm cd : Int) (s : ByteArray) : (errB lt n i r tm cd s).length ≤ n.size + i.size + r.size + s.size + 20 := by
  rw [errB, List.length_append, hdB_length, errF_length]
  omega
end Go.Proofs.YtghnigbihllnmaaGreat.Fn
