/- The laws on tickets. -/
import Derived.Test.YtghnigbihllnmaaGreatHlC
import Derived.Test.YtghnigbihllnmaaGreatSp1
import Derived.Test.YtghnigbihllnmaaGreatTy
import Derived.Test.YtghnigbihllnmaaGreatFn1
import Derived.Test.YtghnigbihllnmaaGreatFn8
import Derived.Test.YtghnigbihllnmaaGreatFn12
import Derived.Test.YtghnigbihllnmaaGreatFn13
import Derived.Test.YtghnigbihllnmaaGreatFn15
import Derived.Test.YtghnigbihllnmaaGreatFn19
import Derived.Test.YtghnigbihllnmaaGreatFn20
import Derived.Test.YtghnigbihllnmaaGreatFn21
import Derived.Test.YtghnigbihllnmaaGreatFn30
import Derived.Test.YtghnigbihllnmaaGreatFn31
import Derived.Test.YtghnigbihllnmaaGreatFn32
set_option linter.unusedVariables false
set_option linter.unusedSimpArgs false
namespace Go.Proofs.YtghnigbihllnmaaGreat.Fn
open Go Hl Sp Ty
set_option maxRecDepth 100000
theorem tkB_length (lt : Bool) (n i r : ByteArray) (ad k li is : Int) (s t : ByteArray) : (tkB lt n i r ad k li is s t).length ≤ n.size + i.size + r.size + s.size + t.size + 30 := by
  have := padB_length (tkPre lt n i r ad k li is s t)
  rw [tkPre_length] at this
  unfold tkB
  omega
theorem TkOk.size {n i r : ByteArray} {ad k li is : Int} {s t : ByteArray} (h : TkOk n i r ad k li is s t) : n.size ≤ 39 ∧ i.size ≤ 39 ∧ r.size ≤ 39 ∧ s.size ≤ 39 ∧ t.size ≤ 39 ∧ 0 ≤ k ∧ k < 18446744073709551616 := by
  have a := validB_size h.1
  have b := nameB_size h.2.1
  have c := instB_size h.2.2.1
  have d := h.2.2.2.2.1
  omega
theorem tk_dec {lt : Bool} {n i r : ByteArray} {ad k li is : Int} {s t : ByteArray} {d : AV} (h0 : tkChk n i r ad k li is s t = 0) (hk : 0 ≤ k ∧ k < 18446744073709551616) (h : DecT (tkB lt n i r ad k li is s t) d) : d = .tup [ticketA lt n i r ad k li is s t, .raw (.int .i64 0)] :=
  h.unique (.inl ⟨_, _, _, _, _, _, _, _, _, _, ⟨tkChk_ok h0 hk, rfl⟩, rfl⟩)
def long6B (n i r s t : ByteArray) : Bool := decide ((n.size : Int) > 100) || decide ((i.size : Int) > 100) || decide ((r.size : Int) > 100) || decide ((s.size : Int) > 100) || decide ((t.size : Int) > 100)
theorem long6B_false {n i r s t : ByteArray} (h : long6B n i r s t = false) : n.size ≤ 100 ∧ i.size ≤ 100 ∧ r.size ≤ 100 ∧ s.size ≤ 100 ∧ t.size ≤ 100 := by
  unfold long6B at h
  simp only [Bool.or_eq_false_iff, decide_eq_false_iff_not] at h
  omega
end Go.Proofs.YtghnigbihllnmaaGreat.Fn
