/- The law on the bytes of authenticators. -/
import Derived.Test.YtghnigbihllnmaaGreatHlC
import Derived.Test.YtghnigbihllnmaaGreatSp1
import Derived.Test.YtghnigbihllnmaaGreatTy
import Derived.Test.YtghnigbihllnmaaGreatFn2
import Derived.Test.YtghnigbihllnmaaGreatFn8
import Derived.Test.YtghnigbihllnmaaGreatFn12
import Derived.Test.YtghnigbihllnmaaGreatFn13
import Derived.Test.YtghnigbihllnmaaGreatFn14
import Derived.Test.YtghnigbihllnmaaGreatFn15
import Derived.Test.YtghnigbihllnmaaGreatFn17
set_option linter.unusedVariables false
set_option linter.unusedSimpArgs false
namespace Go.Proofs.YtghnigbihllnmaaGreat.Fn
open Go Hl Sp Ty
set_option maxRecDepth 100000
theorem authB_flag {n i r n' i' r' : ByteArray} {c t m c' t' m' : Int} {little : Bool} (h : authB n i r c t m little = authB n' i' r' c' t' m' (!little)) : False := by
  have h1 := congrArg (fun l => l.head?) h
  simp only [authB, padB, authPre, List.append_assoc, List.singleton_append, List.cons_append, List.head?_cons, Option.some.injEq] at h1
  cases little
  · exact absurd h1 (by decide)
  · exact absurd h1 (by decide)
theorem auth_dec {n i r : ByteArray} {c t m : Int} {little : Bool} {d : AV} (h0 : authChk n i r c t m = 0) (h : DecS (authB n i r c t m little) little d) : d = .tup [authA n i r c t m, .raw (.int .i64 0)] :=
  h.unique (.inl ⟨_, _, _, _, _, _, ⟨authChk_ok h0, rfl⟩, rfl⟩)
theorem auth_dec' {n i r : ByteArray} {c t m : Int} {little : Bool} {d : AV} (h : DecS (authB n i r c t m little) (!little) d) : d = .tup [authA ⟨#[]⟩ ⟨#[]⟩ ⟨#[]⟩ 0 0 0, .raw (.int .i64 100)] :=
  h.unique (.inr ⟨fun _ _ _ _ _ _ h => authB_flag h.2.symm, rfl⟩)
theorem authB_length (n i r : ByteArray) (c t m : Int) (little : Bool) : (authB n i r c t m little).length ≤ n.size + i.size + r.size + 21 := by
  simp only [authB, padB, List.length_append, authPre_length, List.length_replicate, padN]; omega
end Go.Proofs.YtghnigbihllnmaaGreat.Fn
