/- Authenticators are decoded. -/
import Derived.Test.YtghnigbihllnmaaGreatHlC
import Derived.Test.YtghnigbihllnmaaGreatSp1
import Derived.Test.YtghnigbihllnmaaGreatTy
import Derived.Test.YtghnigbihllnmaaGreatFn2
import Derived.Test.YtghnigbihllnmaaGreatFn3
import Derived.Test.YtghnigbihllnmaaGreatFn8
import Derived.Test.YtghnigbihllnmaaGreatFn9
import Derived.Test.YtghnigbihllnmaaGreatFn12
import Derived.Test.YtghnigbihllnmaaGreatFn13
import Derived.Test.YtghnigbihllnmaaGreatFn15
import Derived.Test.YtghnigbihllnmaaGreatFn16
set_option linter.unusedVariables false
set_option linter.unusedSimpArgs false
namespace Go.Proofs.YtghnigbihllnmaaGreat.Fn
open Go Hl Sp Ty
set_option maxRecDepth 100000

theorem textR_small (b : List UInt8) (at_ : Int) : (textR b at_).1.size ≤ 39 := by
  unfold textR
  split
  · exact Nat.zero_le _
  · simp only
    have hle := indexByte_le ((b.drop at_.toNat).take 40) 0
    have hl : ((b.drop at_.toNat).take 40).length ≤ 40 := by simp; omega
    split
    · simp only [ByteArray.size, List.size_toArray, List.length_take]
      omega
    · split <;> exact Nat.zero_le _
theorem prinR_small (b : List UInt8) (at_ : Int) : (prinR b at_).1.1.size ≤ 39 ∧ (prinR b at_).1.2.1.size ≤ 39 ∧ (prinR b at_).1.2.2.size ≤ 39 := by
  have z : (⟨#[]⟩ : ByteArray).size ≤ 39 := Nat.zero_le _
  unfold prinR
  simp only
  split
  · exact ⟨z, z, z⟩
  · split
    · exact ⟨z, z, z⟩
    · split
      · exact ⟨z, z, z⟩
      · split
        · exact ⟨textR_small _ _, textR_small _ _, textR_small _ _⟩
        · exact ⟨z, z, z⟩
theorem cPrin_small (b : List UInt8) (s : Int × Bool) : (cPrin b s).1.1.size ≤ 39 ∧ (cPrin b s).1.2.1.size ≤ 39 ∧ (cPrin b s).1.2.2.size ≤ 39 := by
  have z : (⟨#[]⟩ : ByteArray).size ≤ 39 := Nat.zero_le _
  unfold cPrin nextP
  simp only
  split
  · exact ⟨z, z, z⟩
  · split
    · exact ⟨z, z, z⟩
    · exact prinR_small _ _
theorem authChk_ok {n i r : ByteArray} {c t m : Int} (h : authChk n i r c t m = 0) : AuthOk n i r c t m := by
  unfold authChk at h
  split at h
  · cases h
  · rename_i h1
    split at h
    · cases h
    · rename_i h2
      exact ⟨by simpa using h1, by omega, by omega, by omega, by omega, by omega, by omega⟩
/-- These bytes are those of an authenticator. -/
def AuthIs (b : List UInt8) (little : Bool) (n i r : ByteArray) (c t m : Int) : Prop := AuthOk n i r c t m ∧ authB n i r c t m little = b
/-- What Decode answers. -/
def DecS (b : List UInt8) (little : Bool) (d : AV) : Prop :=
  (∃ n i r c t m, AuthIs b little n i r c t m ∧ d = .tup [authA n i r c t m, .raw (.int .i64 0)]) ∨
  ((∀ n i r c t m, ¬ AuthIs b little n i r c t m) ∧ d = .tup [authA ⟨#[]⟩ ⟨#[]⟩ ⟨#[]⟩ 0 0 0, .raw (.int .i64 100)])
theorem AuthIs.read {b : List UInt8} {little : Bool} {n i r : ByteArray} {c t m : Int} (h : AuthIs b little n i r c t m) : authR b little = ((n, i, r), c, t, m, false) := by
  obtain ⟨h1, rfl⟩ := h
  exact authR_auth n i r c t m little h1 _
theorem AuthIs.inj {b : List UInt8} {little : Bool} {n i r n' i' r' : ByteArray} {c t m c' t' m' : Int} (h : AuthIs b little n i r c t m) (h' : AuthIs b little n' i' r' c' t' m') : n = n' ∧ i = i' ∧ r = r' ∧ c = c' ∧ t = t' ∧ m = m' := by
  have := h.read.symm.trans h'.read
  simp only [Prod.mk.injEq] at this
  obtain ⟨⟨a, b, c⟩, d, e, f, _⟩ := this
  exact ⟨a, b, c, d, e, f⟩
theorem DecS.unique {b : List UInt8} {little : Bool} {d d' : AV} (h : DecS b little d) (h' : DecS b little d') : d = d' := by
  rcases h with ⟨n, i, r, c, t, m, h1, rfl⟩ | ⟨h1, rfl⟩
  · rcases h' with ⟨n', i', r', c', t', m', h2, rfl⟩ | ⟨h2, rfl⟩
    · obtain ⟨rfl, rfl, rfl, rfl, rfl, rfl⟩ := h1.inj h2
      rfl
    · exact absurd h1 (h2 _ _ _ _ _ _)
  · rcases h' with ⟨n', i', r', c', t', m', h2, rfl⟩ | ⟨h2, rfl⟩
    · exact absurd h2 (h1 _ _ _ _ _ _)
    · rfl

end Go.Proofs.YtghnigbihllnmaaGreat.Fn
