/- Tickets are sealed and opened. -/
import Derived.Test.YtghnigbihllnmaaGreatHlC
import Derived.Test.YtghnigbihllnmaaGreatSp1
import Derived.Test.YtghnigbihllnmaaGreatTy
import Derived.Test.YtghnigbihllnmaaGreatFn19
import Derived.Test.YtghnigbihllnmaaGreatFn21
import Derived.Test.YtghnigbihllnmaaGreatFn27
import Derived.Test.YtghnigbihllnmaaGreatFn28
import Derived.Test.YtghnigbihllnmaaGreatFn30
import Derived.Test.YtghnigbihllnmaaGreatFn31
import Derived.Test.YtghnigbihllnmaaGreatFn33
set_option linter.unusedVariables false
set_option linter.unusedSimpArgs false
namespace Go.Proofs.YtghnigbihllnmaaGreat.Fn
open Go Hl Sp Ty
set_option maxRecDepth 100000
/-- What Seal answers. -/
def tkSealA (lt : Bool) (n i r : ByteArray) (ad k li is : Int) (s t : ByteArray) (key : Int) : AV := if tkChk n i r ad k li is s t = 0 then boxM 1 key (tkB lt n i r ad k li is s t) else .tup [.lst 1 [], .raw (.int .i64 (tkChk n i r ad k li is s t))]
theorem boxM_form (kind k : Int) (body : List UInt8) : ∃ (x : List UInt8) (e : Int), boxM kind k body = .tup [.lst 1 (x.map byteA), .raw (.int .i64 e)] ∧ x.length ≤ body.length + 12 := by
  refine ⟨_, _, rfl, ?_⟩
  split
  · simp only [boxB, List.length_append, numB_length, List.length_cons, List.length_nil]
    omega
  · exact Nat.zero_le _
theorem tkSealA_form (lt : Bool) (n i r : ByteArray) (ad k li is : Int) (s t : ByteArray) (key : Int) (hn : n.size ≤ 1000) (hi : i.size ≤ 1000) (hr : r.size ≤ 1000) (hs : s.size ≤ 1000) (ht : t.size ≤ 1000) : ∃ (x : List UInt8) (e : Int), tkSealA lt n i r ad k li is s t key = .tup [.lst 1 (x.map byteA), .raw (.int .i64 e)] ∧ x.length ≤ 10000 := by
  unfold tkSealA
  split
  · obtain ⟨x, e, h1, h2⟩ := boxM_form 1 key (tkB lt n i r ad k li is s t)
    have := tkB_length lt n i r ad k li is s t
    exact ⟨x, e, h1, by omega⟩
  · exact ⟨[], _, rfl, Nat.zero_le _⟩
/-- What Open answers. -/
def TOp (b : List UInt8) (key : Int) (d : AV) : Prop := match openR b 1 key with | none => d = .tup [tkZ, .raw (.int .i64 31)] | some body => DecT body d
theorem TOp.unique {b : List UInt8} {key : Int} {d d' : AV} (h : TOp b key d) (h' : TOp b key d') : d = d' := by
  unfold TOp at h h'
  split at h
  · rename_i ho
    rw [ho] at h'
    exact h.trans h'.symm
  · rename_i body ho
    rw [ho] at h'
    exact h.unique h'
theorem TOp.form {b : List UInt8} {key : Int} {d : AV} (h : TOp b key d) : ∃ lt n i r ad k li is s t e, d = .tup [ticketA lt n i r ad k li is s t, .raw (.int .i64 e)] := by
  unfold TOp at h
  split at h
  · exact ⟨_, _, _, _, _, _, _, _, _, _, _, h⟩
  · exact h.form
end Go.Proofs.YtghnigbihllnmaaGreat.Fn
