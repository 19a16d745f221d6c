/-
  No cell of these rows narrows 'for every input' (looked for: loops, veiled, ifaces, maps, wideKeys, modest, calm, conditions, laid).
  DERIVED. THE GIVEN ROWS OF THIS SEAT. 3 by the template 'for every input the law returns true; each argument reads behind the call as it read before'; 0 by the template 'total and deterministic' (their statements: YtghnigbihllnmaaGreatTotals.lean).
  GIVEN WITH THE SEED: the statements are not yours to turn. If you find one false, say at which input.
  Laid BY PROGRAM, IN A SANDBOX (cutbox-rows.mjs): the forced cells as the released guide's own fill.sh prints them over the translation 0d2926b7604aea48… (all of the seat's roots in one cut). By AI agents, Wed Nov 11 2026. No macro, syntax, notation, axiom, sorry.
-/
import Derived.Test.YtghnigbihllnmaaGreatChecked
import GoSem.Claim
import GoSem.ClaimJoined
import GoSem.ClaimMapViews
import Derived.JoinedTies
import Derived.KernelRfl
namespace Go.Proofs.YtghnigbihllnmaaGreat
/- THE CELL 'sum', in the pinned program and in every row, IS THE sha256 OF THE DUMP (.gsa) THAT YtghnigbihllnmaaGreatProg.lean LOADS. Nothing in Lean hashes anything: it is a label: what it is worth is what the hold of that sum in a sandbox is worth. -/
noncomputable def Tryz.pinned : Pinned := { name := "ytghnigbihllnmaagreat", sum := "0d2926b7604aea483aaa9c9ec52efc5f1f8797cf989058bc445c2b799dc94a62", checked := Tryz.checked }
namespace Rows
def none {H : Type} : Left H := { results := [], args := [] }

/-- 'kerbsuitelaw9.KdcDecodes': WHATEVER THE INPUT: true; the input reads as it did. -/
def kdcDecodesSpec : ChangeSpec := { name := "kdcDecodes", fn := fun _ => fun
  | [d1, d2, d3, d4, d5, d6, d7] => { results := [.lit (.bool true)], args := [d1, d2, d3, d4, d5, d6, d7] }
  | _ => none }
def kdcDecodesRow : OpenClaim := { program := "ytghnigbihllnmaagreat", sum := "0d2926b7604aea483aaa9c9ec52efc5f1f8797cf989058bc445c2b799dc94a62", func := "kerbsuite/kerbsuitelaw9.KdcDecodes", spec := "kdcDecodes", inPlace := ["internal/bytealg.IndexByteString", "internal/bytealg.IndexByte"], unfollowed := true, recurses := true, apart := false }
def KdcDecodesSaid : Prop := kdcDecodesRow.holds Tryz.pinned (OpenSpec.ofChange kdcDecodesSpec)

/-- ITS FALSE NEIGHBOUR: 'it returns false'. Refute it at one input. -/
def kdcDecodesWrong : ChangeSpec := { name := "kdcDecodes", fn := fun _ => fun
  | [d1, d2, d3, d4, d5, d6, d7] => { results := [.lit (.bool false)], args := [d1, d2, d3, d4, d5, d6, d7] }
  | _ => none }
def KdcDecodesWrongFalsely : Prop := kdcDecodesRow.holds Tryz.pinned (OpenSpec.ofChange kdcDecodesWrong)

/-- 'kerbsuitelaw10.AppDecodes': WHATEVER THE INPUT: true; the input reads as it did. -/
def appDecodesSpec : ChangeSpec := { name := "appDecodes", fn := fun _ => fun
  | [d1, d2, d3, d4, d5, d6, d7] => { results := [.lit (.bool true)], args := [d1, d2, d3, d4, d5, d6, d7] }
  | _ => none }
def appDecodesRow : OpenClaim := { program := "ytghnigbihllnmaagreat", sum := "0d2926b7604aea483aaa9c9ec52efc5f1f8797cf989058bc445c2b799dc94a62", func := "kerbsuite/kerbsuitelaw10.AppDecodes", spec := "appDecodes", inPlace := ["internal/bytealg.IndexByteString", "internal/bytealg.IndexByte"], unfollowed := true, recurses := true, apart := false }
def AppDecodesSaid : Prop := appDecodesRow.holds Tryz.pinned (OpenSpec.ofChange appDecodesSpec)

/-- ITS FALSE NEIGHBOUR: 'it returns false'. Refute it at one input. -/
def appDecodesWrong : ChangeSpec := { name := "appDecodes", fn := fun _ => fun
  | [d1, d2, d3, d4, d5, d6, d7] => { results := [.lit (.bool false)], args := [d1, d2, d3, d4, d5, d6, d7] }
  | _ => none }
def AppDecodesWrongFalsely : Prop := appDecodesRow.holds Tryz.pinned (OpenSpec.ofChange appDecodesWrong)

/-- 'kerbsuitelaw11.ProtectOpens': WHATEVER THE INPUT: true; the input reads as it did. -/
def protectOpensSpec : ChangeSpec := { name := "protectOpens", fn := fun _ => fun
  | [d1, d2, d3, d4, d5, d6, d7, d8] => { results := [.lit (.bool true)], args := [d1, d2, d3, d4, d5, d6, d7, d8] }
  | _ => none }
def protectOpensRow : OpenClaim := { program := "ytghnigbihllnmaagreat", sum := "0d2926b7604aea483aaa9c9ec52efc5f1f8797cf989058bc445c2b799dc94a62", func := "kerbsuite/kerbsuitelaw11.ProtectOpens", spec := "protectOpens", unfollowed := true, recurses := true, apart := false }
def ProtectOpensSaid : Prop := protectOpensRow.holds Tryz.pinned (OpenSpec.ofChange protectOpensSpec)

/-- ITS FALSE NEIGHBOUR: 'it returns false'. Refute it at one input. -/
def protectOpensWrong : ChangeSpec := { name := "protectOpens", fn := fun _ => fun
  | [d1, d2, d3, d4, d5, d6, d7, d8] => { results := [.lit (.bool false)], args := [d1, d2, d3, d4, d5, d6, d7, d8] }
  | _ => none }
def ProtectOpensWrongFalsely : Prop := protectOpensRow.holds Tryz.pinned (OpenSpec.ofChange protectOpensWrong)

/- THE SECOND FORM. 'bulk': how many values and letters a reading holds, each counted each time it is reached (what is shared counts as often as it is met; a slice's spare places count too). A statement '..UptoSaid' is the law's where the arguments, and the package variables that the reading takes, are together of bulk at most 1048576: NARROWER than '..Said'. Prove '..Said' where nothing that the law and all that it calls make is longer than what came in: it says more and counts as full. Else prove '..UptoSaid'. A law counts once. -/
mutual
def uptoBulk {H : Type} : DataW H → Nat
  | .lit (.string bytes) => bytes.length + 1
  | .lit _ => 1
  | .nil => 1
  | .ptr d => uptoBulk d + 1
  | .slice elems spare => uptoBulkAll elems + uptoBulkAll spare + 1
  | .agg parts => uptoBulkAll parts + 1
  | .iface _ d => uptoBulk d + 1
  | .map entries => uptoBulkEntries entries + 1
  | .held _ => 1
def uptoBulkAll {H : Type} : List (DataW H) → Nat
  | [] => 0
  | d :: r => uptoBulk d + uptoBulkAll r
def uptoBulkEntries {H : Type} : List (Lit × DataW H) → Nat
  | [] => 0
  | x :: r => uptoBulkEntry x + uptoBulkEntries r
def uptoBulkEntry {H : Type} : Lit × DataW H → Nat
  | (.string bytes, d) => bytes.length + uptoBulk d + 1
  | (_, d) => uptoBulk d + 1
 end
def uptoSmall : (H : Type) → List (DataW H) → Bool := fun _ ds => decide (uptoBulkAll ds ≤ 1048576)
def OpenSpec.upto (s : _root_.Go.ChangeSpec) : _root_.Go.OpenSpec := { _root_.Go.OpenSpec.ofChange s with cond := some uptoSmall }

/-- 'kerbsuitelaw9.KdcDecodes', WHERE WHAT IT READS IS OF BULK AT MOST 1048576: true; the input reads as it did. -/
def kdcDecodesUptoRow : OpenClaim := { program := "ytghnigbihllnmaagreat", sum := "0d2926b7604aea483aaa9c9ec52efc5f1f8797cf989058bc445c2b799dc94a62", func := "kerbsuite/kerbsuitelaw9.KdcDecodes", spec := "kdcDecodes", inPlace := ["internal/bytealg.IndexByteString", "internal/bytealg.IndexByte"], unfollowed := true, recurses := true, apart := false, narrowed := true }
def KdcDecodesUptoSaid : Prop := kdcDecodesUptoRow.holds Tryz.pinned (OpenSpec.upto kdcDecodesSpec)

/-- 'kerbsuitelaw10.AppDecodes', WHERE WHAT IT READS IS OF BULK AT MOST 1048576: true; the input reads as it did. -/
def appDecodesUptoRow : OpenClaim := { program := "ytghnigbihllnmaagreat", sum := "0d2926b7604aea483aaa9c9ec52efc5f1f8797cf989058bc445c2b799dc94a62", func := "kerbsuite/kerbsuitelaw10.AppDecodes", spec := "appDecodes", inPlace := ["internal/bytealg.IndexByteString", "internal/bytealg.IndexByte"], unfollowed := true, recurses := true, apart := false, narrowed := true }
def AppDecodesUptoSaid : Prop := appDecodesUptoRow.holds Tryz.pinned (OpenSpec.upto appDecodesSpec)

/-- 'kerbsuitelaw11.ProtectOpens', WHERE WHAT IT READS IS OF BULK AT MOST 1048576: true; the input reads as it did. -/
def protectOpensUptoRow : OpenClaim := { program := "ytghnigbihllnmaagreat", sum := "0d2926b7604aea483aaa9c9ec52efc5f1f8797cf989058bc445c2b799dc94a62", func := "kerbsuite/kerbsuitelaw11.ProtectOpens", spec := "protectOpens", unfollowed := true, recurses := true, apart := false, narrowed := true }
def ProtectOpensUptoSaid : Prop := protectOpensUptoRow.holds Tryz.pinned (OpenSpec.upto protectOpensSpec)

end Rows
end Go.Proofs.YtghnigbihllnmaaGreat
