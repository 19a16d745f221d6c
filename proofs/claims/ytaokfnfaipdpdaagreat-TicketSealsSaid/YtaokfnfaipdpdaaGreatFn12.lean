/- Authenticators: which are valid, and those that are made. -/
import Derived.Test.YtaokfnfaipdpdaaGreatHlC
import Derived.Test.YtaokfnfaipdpdaaGreatSp1
import Derived.Test.YtaokfnfaipdpdaaGreatTy
import Derived.Test.YtaokfnfaipdpdaaGreatFn2
import Derived.Test.YtaokfnfaipdpdaaGreatFn8
import Derived.Test.YtaokfnfaipdpdaaGreatFn9
import Derived.Test.YtaokfnfaipdpdaaGreatFn11
set_option linter.unusedVariables false
set_option linter.unusedSimpArgs false
namespace Go.Proofs.YtaokfnfaipdpdaaGreat.Fn
open Go Hl Sp Ty
set_option maxRecDepth 100000

/-- An authenticator as a value. -/
def authA (n i r : ByteArray) (c t m : Int) : AV := .st [.raw (.string n), .raw (.string i), .raw (.string r), .raw (.int .i64 c), .raw (.int .i64 t), .raw (.int .i64 m)]
/-- What Check of an authenticator answers. -/
def authChk (n i r : ByteArray) (c t m : Int) : Int := if validB n i r = false then 103 else if c < 0 ∨ c > 4294967295 ∨ t < 0 ∨ t > 199 ∨ m < 0 ∨ m > 4294967295 then 104 else 0

/-- An authenticator without errors. -/
def AuthOk (n i r : ByteArray) (c t m : Int) : Prop := validB n i r = true ∧ 0 ≤ c ∧ c ≤ 4294967295 ∧ 0 ≤ t ∧ t ≤ 199 ∧ 0 ≤ m ∧ m ≤ 4294967295
def AuthS (d : AV) : Prop := ∃ n i r c t m, d = authA n i r c t m ∧ AuthOk n i r c t m
theorem printB_size {s bad : List UInt8} (h : printB s bad = true) : s.length ≤ 39 := by
  unfold printB at h
  simp only [Bool.and_eq_true, decide_eq_true_eq] at h
  exact h.2
theorem validB_size {n i r : ByteArray} (h : validB n i r = true) : n.size ≤ 39 ∧ i.size ≤ 39 ∧ r.size ≤ 39 := by
  unfold validB nameB instB realmB at h
  simp only [Bool.and_eq_true] at h
  obtain ⟨⟨⟨_, h1⟩, h2⟩, _, h3⟩ := h
  rw [size_eq n, size_eq i, size_eq r]
  exact ⟨printB_size h1, printB_size h2, printB_size h3⟩
theorem AuthOk.chk {n i r : ByteArray} {c t m : Int} (h : AuthOk n i r c t m) : authChk n i r c t m = 0 := by
  obtain ⟨h1, h2⟩ := h
  rw [authChk, if_neg (by simp [h1]), if_neg (by omega)]
theorem longest_val : validB (nS 39) (nS 39) (nS 39) = true := by decide

end Go.Proofs.YtaokfnfaipdpdaaGreat.Fn
