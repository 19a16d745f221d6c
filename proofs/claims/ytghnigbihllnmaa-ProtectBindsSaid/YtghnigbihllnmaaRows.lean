/-
  No cell of these rows narrows 'for every input' (looked for: loops, veiled, ifaces, maps, wideKeys, modest, calm, conditions, laid).
  DERIVED. THE GIVEN ROWS OF THIS SEAT. 8 by the template 'for every input the law returns true; each argument reads behind the call as it read before'; 0 by the template 'total and deterministic' (their statements: YtghnigbihllnmaaTotals.lean).
  GIVEN WITH THE SEED: the statements are not yours to turn. If you find one false, say at which input.
  Laid BY PROGRAM, IN A SANDBOX (cutbox-rows.mjs): the forced cells as the released guide's own fill.sh prints them over the translation 126e557e57a3a550… (all of the seat's roots in one cut). By AI agents, Wed Nov 11 2026. No macro, syntax, notation, axiom, sorry.
-/
import Derived.Test.YtghnigbihllnmaaChecked
import GoSem.Claim
import GoSem.ClaimJoined
import GoSem.ClaimMapViews
import Derived.JoinedTies
import Derived.KernelRfl
namespace Go.Proofs.Ytghnigbihllnmaa
/- THE CELL 'sum', in the pinned program and in every row, IS THE sha256 OF THE DUMP (.gsa) THAT YtghnigbihllnmaaProg.lean LOADS. Nothing in Lean hashes anything: it is a label: what it is worth is what the hold of that sum in a sandbox is worth. -/
noncomputable def Try.pinned : Pinned := { name := "ytghnigbihllnmaa", sum := "126e557e57a3a550e6b83513dbc029cb1dddba6751da7dae14c280a9021a7a60", checked := Try.checked }
namespace Rows
def none {H : Type} : Left H := { results := [], args := [] }

/-- 'kerbsuitelaw10.AppRequests': WHATEVER THE INPUT: true; the input reads as it did. -/
def appRequestsSpec : ChangeSpec := { name := "appRequests", fn := fun _ => fun
  | [d1, d2] => { results := [.lit (.bool true)], args := [d1, d2] }
  | _ => none }
def appRequestsRow : OpenClaim := { program := "ytghnigbihllnmaa", sum := "126e557e57a3a550e6b83513dbc029cb1dddba6751da7dae14c280a9021a7a60", func := "kerbsuite/kerbsuitelaw10.AppRequests", spec := "appRequests", inPlace := ["internal/bytealg.IndexByteString", "internal/bytealg.IndexByte"], unfollowed := true, recurses := true, apart := false }
def AppRequestsSaid : Prop := appRequestsRow.holds Try.pinned (OpenSpec.ofChange appRequestsSpec)

/-- ITS FALSE NEIGHBOUR: 'it returns false'. Refute it at one input. -/
def appRequestsWrong : ChangeSpec := { name := "appRequests", fn := fun _ => fun
  | [d1, d2] => { results := [.lit (.bool false)], args := [d1, d2] }
  | _ => none }
def AppRequestsWrongFalsely : Prop := appRequestsRow.holds Try.pinned (OpenSpec.ofChange appRequestsWrong)

/-- 'kerbsuitelaw10.AppTgs': WHATEVER THE INPUT: true; the input reads as it did. -/
def appTgsSpec : ChangeSpec := { name := "appTgs", fn := fun _ => fun
  | [d1, d2, d3] => { results := [.lit (.bool true)], args := [d1, d2, d3] }
  | _ => none }
def appTgsRow : OpenClaim := { program := "ytghnigbihllnmaa", sum := "126e557e57a3a550e6b83513dbc029cb1dddba6751da7dae14c280a9021a7a60", func := "kerbsuite/kerbsuitelaw10.AppTgs", spec := "appTgs", inPlace := ["internal/bytealg.IndexByteString", "internal/bytealg.IndexByte"], unfollowed := true, recurses := true, apart := false }
def AppTgsSaid : Prop := appTgsRow.holds Try.pinned (OpenSpec.ofChange appTgsSpec)

/-- ITS FALSE NEIGHBOUR: 'it returns false'. Refute it at one input. -/
def appTgsWrong : ChangeSpec := { name := "appTgs", fn := fun _ => fun
  | [d1, d2, d3] => { results := [.lit (.bool false)], args := [d1, d2, d3] }
  | _ => none }
def AppTgsWrongFalsely : Prop := appTgsRow.holds Try.pinned (OpenSpec.ofChange appTgsWrong)

/-- 'kerbsuitelaw9.KdcErrors': WHATEVER THE INPUT: true; the input reads as it did. -/
def kdcErrorsSpec : ChangeSpec := { name := "kdcErrors", fn := fun _ => fun
  | [d1, d2, d3, d4, d5] => { results := [.lit (.bool true)], args := [d1, d2, d3, d4, d5] }
  | _ => none }
def kdcErrorsRow : OpenClaim := { program := "ytghnigbihllnmaa", sum := "126e557e57a3a550e6b83513dbc029cb1dddba6751da7dae14c280a9021a7a60", func := "kerbsuite/kerbsuitelaw9.KdcErrors", spec := "kdcErrors", inPlace := ["internal/bytealg.IndexByteString", "internal/bytealg.IndexByte"], unfollowed := true, recurses := true, apart := false }
def KdcErrorsSaid : Prop := kdcErrorsRow.holds Try.pinned (OpenSpec.ofChange kdcErrorsSpec)

/-- ITS FALSE NEIGHBOUR: 'it returns false'. Refute it at one input. -/
def kdcErrorsWrong : ChangeSpec := { name := "kdcErrors", fn := fun _ => fun
  | [d1, d2, d3, d4, d5] => { results := [.lit (.bool false)], args := [d1, d2, d3, d4, d5] }
  | _ => none }
def KdcErrorsWrongFalsely : Prop := kdcErrorsRow.holds Try.pinned (OpenSpec.ofChange kdcErrorsWrong)

/-- 'kerbsuitelaw9.KdcReplies': WHATEVER THE INPUT: true; the input reads as it did. -/
def kdcRepliesSpec : ChangeSpec := { name := "kdcReplies", fn := fun _ => fun
  | [d1, d2, d3, d4, d5] => { results := [.lit (.bool true)], args := [d1, d2, d3, d4, d5] }
  | _ => none }
def kdcRepliesRow : OpenClaim := { program := "ytghnigbihllnmaa", sum := "126e557e57a3a550e6b83513dbc029cb1dddba6751da7dae14c280a9021a7a60", func := "kerbsuite/kerbsuitelaw9.KdcReplies", spec := "kdcReplies", inPlace := ["internal/bytealg.IndexByteString", "internal/bytealg.IndexByte"], unfollowed := true, recurses := true, apart := false }
def KdcRepliesSaid : Prop := kdcRepliesRow.holds Try.pinned (OpenSpec.ofChange kdcRepliesSpec)

/-- ITS FALSE NEIGHBOUR: 'it returns false'. Refute it at one input. -/
def kdcRepliesWrong : ChangeSpec := { name := "kdcReplies", fn := fun _ => fun
  | [d1, d2, d3, d4, d5] => { results := [.lit (.bool false)], args := [d1, d2, d3, d4, d5] }
  | _ => none }
def KdcRepliesWrongFalsely : Prop := kdcRepliesRow.holds Try.pinned (OpenSpec.ofChange kdcRepliesWrong)

/-- 'kerbsuitelaw9.KdcParts': WHATEVER THE INPUT: true; the input reads as it did. -/
def kdcPartsSpec : ChangeSpec := { name := "kdcParts", fn := fun _ => fun
  | [d1, d2, d3, d4] => { results := [.lit (.bool true)], args := [d1, d2, d3, d4] }
  | _ => none }
def kdcPartsRow : OpenClaim := { program := "ytghnigbihllnmaa", sum := "126e557e57a3a550e6b83513dbc029cb1dddba6751da7dae14c280a9021a7a60", func := "kerbsuite/kerbsuitelaw9.KdcParts", spec := "kdcParts", inPlace := ["internal/bytealg.IndexByteString", "internal/bytealg.IndexByte"], unfollowed := true, recurses := true, apart := false }
def KdcPartsSaid : Prop := kdcPartsRow.holds Try.pinned (OpenSpec.ofChange kdcPartsSpec)

/-- ITS FALSE NEIGHBOUR: 'it returns false'. Refute it at one input. -/
def kdcPartsWrong : ChangeSpec := { name := "kdcParts", fn := fun _ => fun
  | [d1, d2, d3, d4] => { results := [.lit (.bool false)], args := [d1, d2, d3, d4] }
  | _ => none }
def KdcPartsWrongFalsely : Prop := kdcPartsRow.holds Try.pinned (OpenSpec.ofChange kdcPartsWrong)

/-- 'kerbsuitelaw11.ProtectEncodes': WHATEVER THE INPUT: true; the input reads as it did. -/
def protectEncodesSpec : ChangeSpec := { name := "protectEncodes", fn := fun _ => fun
  | [d1, d2, d3, d4, d5, d6, d7] => { results := [.lit (.bool true)], args := [d1, d2, d3, d4, d5, d6, d7] }
  | _ => none }
def protectEncodesRow : OpenClaim := { program := "ytghnigbihllnmaa", sum := "126e557e57a3a550e6b83513dbc029cb1dddba6751da7dae14c280a9021a7a60", func := "kerbsuite/kerbsuitelaw11.ProtectEncodes", spec := "protectEncodes", unfollowed := true, recurses := true, apart := false }
def ProtectEncodesSaid : Prop := protectEncodesRow.holds Try.pinned (OpenSpec.ofChange protectEncodesSpec)

/-- ITS FALSE NEIGHBOUR: 'it returns false'. Refute it at one input. -/
def protectEncodesWrong : ChangeSpec := { name := "protectEncodes", fn := fun _ => fun
  | [d1, d2, d3, d4, d5, d6, d7] => { results := [.lit (.bool false)], args := [d1, d2, d3, d4, d5, d6, d7] }
  | _ => none }
def ProtectEncodesWrongFalsely : Prop := protectEncodesRow.holds Try.pinned (OpenSpec.ofChange protectEncodesWrong)

/-- 'kerbsuitelaw11.ProtectMakes': WHATEVER THE INPUT: true; the input reads as it did. -/
def protectMakesSpec : ChangeSpec := { name := "protectMakes", fn := fun _ => fun
  | [d1, d2, d3, d4, d5, d6] => { results := [.lit (.bool true)], args := [d1, d2, d3, d4, d5, d6] }
  | _ => none }
def protectMakesRow : OpenClaim := { program := "ytghnigbihllnmaa", sum := "126e557e57a3a550e6b83513dbc029cb1dddba6751da7dae14c280a9021a7a60", func := "kerbsuite/kerbsuitelaw11.ProtectMakes", spec := "protectMakes", unfollowed := true, recurses := true, apart := false }
def ProtectMakesSaid : Prop := protectMakesRow.holds Try.pinned (OpenSpec.ofChange protectMakesSpec)

/-- ITS FALSE NEIGHBOUR: 'it returns false'. Refute it at one input. -/
def protectMakesWrong : ChangeSpec := { name := "protectMakes", fn := fun _ => fun
  | [d1, d2, d3, d4, d5, d6] => { results := [.lit (.bool false)], args := [d1, d2, d3, d4, d5, d6] }
  | _ => none }
def ProtectMakesWrongFalsely : Prop := protectMakesRow.holds Try.pinned (OpenSpec.ofChange protectMakesWrong)

/-- 'kerbsuitelaw11.ProtectBinds': WHATEVER THE INPUT: true; the input reads as it did. -/
def protectBindsSpec : ChangeSpec := { name := "protectBinds", fn := fun _ => fun
  | [d1, d2, d3, d4, d5, d6, d7, d8] => { results := [.lit (.bool true)], args := [d1, d2, d3, d4, d5, d6, d7, d8] }
  | _ => none }
def protectBindsRow : OpenClaim := { program := "ytghnigbihllnmaa", sum := "126e557e57a3a550e6b83513dbc029cb1dddba6751da7dae14c280a9021a7a60", func := "kerbsuite/kerbsuitelaw11.ProtectBinds", spec := "protectBinds", unfollowed := true, recurses := true, apart := false }
def ProtectBindsSaid : Prop := protectBindsRow.holds Try.pinned (OpenSpec.ofChange protectBindsSpec)

/-- ITS FALSE NEIGHBOUR: 'it returns false'. Refute it at one input. -/
def protectBindsWrong : ChangeSpec := { name := "protectBinds", fn := fun _ => fun
  | [d1, d2, d3, d4, d5, d6, d7, d8] => { results := [.lit (.bool false)], args := [d1, d2, d3, d4, d5, d6, d7, d8] }
  | _ => none }
def ProtectBindsWrongFalsely : Prop := protectBindsRow.holds Try.pinned (OpenSpec.ofChange protectBindsWrong)

/- THE SECOND FORM. 'bulk': how many values and letters a reading holds, each counted each time it is reached (what is shared counts as often as it is met; a slice's spare places count too). A statement '..UptoSaid' is the law's where the arguments, and the package variables that the reading takes, are together of bulk at most 1048576: NARROWER than '..Said'. Prove '..Said' where nothing that the law and all that it calls make is longer than what came in: it says more and counts as full. Else prove '..UptoSaid'. A law counts once. -/
mutual
def uptoBulk {H : Type} : DataW H → Nat
  | .lit (.string bytes) => bytes.length + 1
  | .lit _ => 1
  | .nil => 1
  | .ptr d => uptoBulk d + 1
  | .slice elems spare => uptoBulkAll elems + uptoBulkAll spare + 1
  | .agg parts => uptoBulkAll parts + 1
  | .iface _ d => uptoBulk d + 1
  | .map entries => uptoBulkEntries entries + 1
  | .held _ => 1
def uptoBulkAll {H : Type} : List (DataW H) → Nat
  | [] => 0
  | d :: r => uptoBulk d + uptoBulkAll r
def uptoBulkEntries {H : Type} : List (Lit × DataW H) → Nat
  | [] => 0
  | x :: r => uptoBulkEntry x + uptoBulkEntries r
def uptoBulkEntry {H : Type} : Lit × DataW H → Nat
  | (.string bytes, d) => bytes.length + uptoBulk d + 1
  | (_, d) => uptoBulk d + 1
 end
def uptoSmall : (H : Type) → List (DataW H) → Bool := fun _ ds => decide (uptoBulkAll ds ≤ 1048576)
def OpenSpec.upto (s : _root_.Go.ChangeSpec) : _root_.Go.OpenSpec := { _root_.Go.OpenSpec.ofChange s with cond := some uptoSmall }

/-- 'kerbsuitelaw10.AppRequests', WHERE WHAT IT READS IS OF BULK AT MOST 1048576: true; the input reads as it did. -/
def appRequestsUptoRow : OpenClaim := { program := "ytghnigbihllnmaa", sum := "126e557e57a3a550e6b83513dbc029cb1dddba6751da7dae14c280a9021a7a60", func := "kerbsuite/kerbsuitelaw10.AppRequests", spec := "appRequests", inPlace := ["internal/bytealg.IndexByteString", "internal/bytealg.IndexByte"], unfollowed := true, recurses := true, apart := false, narrowed := true }
def AppRequestsUptoSaid : Prop := appRequestsUptoRow.holds Try.pinned (OpenSpec.upto appRequestsSpec)

/-- 'kerbsuitelaw10.AppTgs', WHERE WHAT IT READS IS OF BULK AT MOST 1048576: true; the input reads as it did. -/
def appTgsUptoRow : OpenClaim := { program := "ytghnigbihllnmaa", sum := "126e557e57a3a550e6b83513dbc029cb1dddba6751da7dae14c280a9021a7a60", func := "kerbsuite/kerbsuitelaw10.AppTgs", spec := "appTgs", inPlace := ["internal/bytealg.IndexByteString", "internal/bytealg.IndexByte"], unfollowed := true, recurses := true, apart := false, narrowed := true }
def AppTgsUptoSaid : Prop := appTgsUptoRow.holds Try.pinned (OpenSpec.upto appTgsSpec)

/-- 'kerbsuitelaw9.KdcErrors', WHERE WHAT IT READS IS OF BULK AT MOST 1048576: true; the input reads as it did. -/
def kdcErrorsUptoRow : OpenClaim := { program := "ytghnigbihllnmaa", sum := "126e557e57a3a550e6b83513dbc029cb1dddba6751da7dae14c280a9021a7a60", func := "kerbsuite/kerbsuitelaw9.KdcErrors", spec := "kdcErrors", inPlace := ["internal/bytealg.IndexByteString", "internal/bytealg.IndexByte"], unfollowed := true, recurses := true, apart := false, narrowed := true }
def KdcErrorsUptoSaid : Prop := kdcErrorsUptoRow.holds Try.pinned (OpenSpec.upto kdcErrorsSpec)

/-- 'kerbsuitelaw9.KdcReplies', WHERE WHAT IT READS IS OF BULK AT MOST 1048576: true; the input reads as it did. -/
def kdcRepliesUptoRow : OpenClaim := { program := "ytghnigbihllnmaa", sum := "126e557e57a3a550e6b83513dbc029cb1dddba6751da7dae14c280a9021a7a60", func := "kerbsuite/kerbsuitelaw9.KdcReplies", spec := "kdcReplies", inPlace := ["internal/bytealg.IndexByteString", "internal/bytealg.IndexByte"], unfollowed := true, recurses := true, apart := false, narrowed := true }
def KdcRepliesUptoSaid : Prop := kdcRepliesUptoRow.holds Try.pinned (OpenSpec.upto kdcRepliesSpec)

/-- 'kerbsuitelaw9.KdcParts', WHERE WHAT IT READS IS OF BULK AT MOST 1048576: true; the input reads as it did. -/
def kdcPartsUptoRow : OpenClaim := { program := "ytghnigbihllnmaa", sum := "126e557e57a3a550e6b83513dbc029cb1dddba6751da7dae14c280a9021a7a60", func := "kerbsuite/kerbsuitelaw9.KdcParts", spec := "kdcParts", inPlace := ["internal/bytealg.IndexByteString", "internal/bytealg.IndexByte"], unfollowed := true, recurses := true, apart := false, narrowed := true }
def KdcPartsUptoSaid : Prop := kdcPartsUptoRow.holds Try.pinned (OpenSpec.upto kdcPartsSpec)

/-- 'kerbsuitelaw11.ProtectEncodes', WHERE WHAT IT READS IS OF BULK AT MOST 1048576: true; the input reads as it did. -/
def protectEncodesUptoRow : OpenClaim := { program := "ytghnigbihllnmaa", sum := "126e557e57a3a550e6b83513dbc029cb1dddba6751da7dae14c280a9021a7a60", func := "kerbsuite/kerbsuitelaw11.ProtectEncodes", spec := "protectEncodes", unfollowed := true, recurses := true, apart := false, narrowed := true }
def ProtectEncodesUptoSaid : Prop := protectEncodesUptoRow.holds Try.pinned (OpenSpec.upto protectEncodesSpec)

/-- 'kerbsuitelaw11.ProtectMakes', WHERE WHAT IT READS IS OF BULK AT MOST 1048576: true; the input reads as it did. -/
def protectMakesUptoRow : OpenClaim := { program := "ytghnigbihllnmaa", sum := "126e557e57a3a550e6b83513dbc029cb1dddba6751da7dae14c280a9021a7a60", func := "kerbsuite/kerbsuitelaw11.ProtectMakes", spec := "protectMakes", unfollowed := true, recurses := true, apart := false, narrowed := true }
def ProtectMakesUptoSaid : Prop := protectMakesUptoRow.holds Try.pinned (OpenSpec.upto protectMakesSpec)

/-- 'kerbsuitelaw11.ProtectBinds', WHERE WHAT IT READS IS OF BULK AT MOST 1048576: true; the input reads as it did. -/
def protectBindsUptoRow : OpenClaim := { program := "ytghnigbihllnmaa", sum := "126e557e57a3a550e6b83513dbc029cb1dddba6751da7dae14c280a9021a7a60", func := "kerbsuite/kerbsuitelaw11.ProtectBinds", spec := "protectBinds", unfollowed := true, recurses := true, apart := false, narrowed := true }
def ProtectBindsUptoSaid : Prop := protectBindsUptoRow.holds Try.pinned (OpenSpec.upto protectBindsSpec)

end Rows
end Go.Proofs.Ytghnigbihllnmaa
