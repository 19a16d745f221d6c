/-
  No cell of these rows narrows 'for every input' (looked for: loops, veiled, ifaces, maps, wideKeys, modest, calm, conditions, laid).
  DERIVED. THE GIVEN ROWS OF THIS SEAT. 12 by the template 'for every input the law returns true; each argument reads behind the call as it read before'; 0 by the template 'total and deterministic' (their statements: YtenfgknhongaaaaTotals.lean).
  GIVEN WITH THE SEED: the statements are not yours to turn. If you find one false, say at which input.
  Laid BY PROGRAM, IN A SANDBOX (cutbox-rows.mjs): the forced cells as the released guide's own fill.sh prints them over the translation a478e1180ef3b52c… (all of the seat's roots in one cut). By AI agents, Wed Nov 11 2026. No macro, syntax, notation, axiom, sorry.
-/
import Derived.Test.YtenfgknhongaaaaChecked
import GoSem.Claim
import GoSem.ClaimJoined
import GoSem.ClaimMapViews
import Derived.JoinedTies
import Derived.KernelRfl
namespace Go.Proofs.Ytenfgknhongaaaa
/- THE CELL 'sum', in the pinned program and in every row, IS THE sha256 OF THE DUMP (.gsa) THAT YtenfgknhongaaaaProg.lean LOADS. Nothing in Lean hashes anything: it is a label: what it is worth is what the hold of that sum in a sandbox is worth. -/
noncomputable def Try.pinned : Pinned := { name := "ytenfgknhongaaaa", sum := "a478e1180ef3b52c032408efbf3dfa4edbcbd17fbd771c54e51791b4b56f38ae", checked := Try.checked }
namespace Rows
def none {H : Type} : Left H := { results := [], args := [] }

/-- 'kerbsuitelaw5.FieldWrites': WHATEVER THE INPUT: true; the input reads as it did. -/
def fieldWritesSpec : ChangeSpec := { name := "fieldWrites", fn := fun _ => fun
  | [d1, d2, d3, d4, d5] => { results := [.lit (.bool true)], args := [d1, d2, d3, d4, d5] }
  | _ => none }
def fieldWritesRow : OpenClaim := { program := "ytenfgknhongaaaa", sum := "a478e1180ef3b52c032408efbf3dfa4edbcbd17fbd771c54e51791b4b56f38ae", func := "kerbsuite/kerbsuitelaw5.FieldWrites", spec := "fieldWrites", inPlace := ["internal/bytealg.IndexByte"], plainKeys := false, apart := false }
def FieldWritesSaid : Prop := fieldWritesRow.holds Try.pinned (OpenSpec.ofChange fieldWritesSpec)

/-- ITS FALSE NEIGHBOUR: 'it returns false'. Refute it at one input. -/
def fieldWritesWrong : ChangeSpec := { name := "fieldWrites", fn := fun _ => fun
  | [d1, d2, d3, d4, d5] => { results := [.lit (.bool false)], args := [d1, d2, d3, d4, d5] }
  | _ => none }
def FieldWritesWrongFalsely : Prop := fieldWritesRow.holds Try.pinned (OpenSpec.ofChange fieldWritesWrong)

/-- 'kerbsuitelaw5.FieldOrder': WHATEVER THE INPUT: true; the input reads as it did. -/
def fieldOrderSpec : ChangeSpec := { name := "fieldOrder", fn := fun _ => fun
  | [d] => { results := [.lit (.bool true)], args := [d] }
  | _ => none }
def fieldOrderRow : OpenClaim := { program := "ytenfgknhongaaaa", sum := "a478e1180ef3b52c032408efbf3dfa4edbcbd17fbd771c54e51791b4b56f38ae", func := "kerbsuite/kerbsuitelaw5.FieldOrder", spec := "fieldOrder", inPlace := ["internal/bytealg.IndexByte"], plainKeys := false, apart := false }
def FieldOrderSaid : Prop := fieldOrderRow.holds Try.pinned (OpenSpec.ofChange fieldOrderSpec)

/-- ITS FALSE NEIGHBOUR: 'it returns false'. Refute it at one input. -/
def fieldOrderWrong : ChangeSpec := { name := "fieldOrder", fn := fun _ => fun
  | [d] => { results := [.lit (.bool false)], args := [d] }
  | _ => none }
def FieldOrderWrongFalsely : Prop := fieldOrderRow.holds Try.pinned (OpenSpec.ofChange fieldOrderWrong)

/-- 'kerbsuitelaw7.AuthenticatorChecks': WHATEVER THE INPUT: true; the input reads as it did. -/
def authenticatorChecksSpec : ChangeSpec := { name := "authenticatorChecks", fn := fun _ => fun
  | [d1, d2, d3, d4, d5, d6] => { results := [.lit (.bool true)], args := [d1, d2, d3, d4, d5, d6] }
  | _ => none }
def authenticatorChecksRow : OpenClaim := { program := "ytenfgknhongaaaa", sum := "a478e1180ef3b52c032408efbf3dfa4edbcbd17fbd771c54e51791b4b56f38ae", func := "kerbsuite/kerbsuitelaw7.AuthenticatorChecks", spec := "authenticatorChecks", inPlace := ["internal/bytealg.IndexByteString"], plainKeys := false, apart := false }
def AuthenticatorChecksSaid : Prop := authenticatorChecksRow.holds Try.pinned (OpenSpec.ofChange authenticatorChecksSpec)

/-- ITS FALSE NEIGHBOUR: 'it returns false'. Refute it at one input. -/
def authenticatorChecksWrong : ChangeSpec := { name := "authenticatorChecks", fn := fun _ => fun
  | [d1, d2, d3, d4, d5, d6] => { results := [.lit (.bool false)], args := [d1, d2, d3, d4, d5, d6] }
  | _ => none }
def AuthenticatorChecksWrongFalsely : Prop := authenticatorChecksRow.holds Try.pinned (OpenSpec.ofChange authenticatorChecksWrong)

/-- 'kerbsuitelaw5.FieldTexts': WHATEVER THE INPUT: true; the input reads as it did. -/
def fieldTextsSpec : ChangeSpec := { name := "fieldTexts", fn := fun _ => fun
  | [d1, d2, d3, d4, d5] => { results := [.lit (.bool true)], args := [d1, d2, d3, d4, d5] }
  | _ => none }
def fieldTextsRow : OpenClaim := { program := "ytenfgknhongaaaa", sum := "a478e1180ef3b52c032408efbf3dfa4edbcbd17fbd771c54e51791b4b56f38ae", func := "kerbsuite/kerbsuitelaw5.FieldTexts", spec := "fieldTexts", inPlace := ["internal/bytealg.IndexByte", "internal/bytealg.IndexByteString"], plainKeys := false, apart := false }
def FieldTextsSaid : Prop := fieldTextsRow.holds Try.pinned (OpenSpec.ofChange fieldTextsSpec)

/-- ITS FALSE NEIGHBOUR: 'it returns false'. Refute it at one input. -/
def fieldTextsWrong : ChangeSpec := { name := "fieldTexts", fn := fun _ => fun
  | [d1, d2, d3, d4, d5] => { results := [.lit (.bool false)], args := [d1, d2, d3, d4, d5] }
  | _ => none }
def FieldTextsWrongFalsely : Prop := fieldTextsRow.holds Try.pinned (OpenSpec.ofChange fieldTextsWrong)

/-- 'kerbsuitelaw13.SrvtabFinds': WHATEVER THE INPUT: true; the input reads as it did. -/
def srvtabFindsSpec : ChangeSpec := { name := "srvtabFinds", fn := fun _ => fun
  | [d1, d2, d3, d4, d5, d6, d7, d8] => { results := [.lit (.bool true)], args := [d1, d2, d3, d4, d5, d6, d7, d8] }
  | _ => none }
def srvtabFindsRow : OpenClaim := { program := "ytenfgknhongaaaa", sum := "a478e1180ef3b52c032408efbf3dfa4edbcbd17fbd771c54e51791b4b56f38ae", func := "kerbsuite/kerbsuitelaw13.SrvtabFinds", spec := "srvtabFinds", inPlace := ["internal/bytealg.IndexByteString"], plainKeys := false, apart := false }
def SrvtabFindsSaid : Prop := srvtabFindsRow.holds Try.pinned (OpenSpec.ofChange srvtabFindsSpec)

/-- ITS FALSE NEIGHBOUR: 'it returns false'. Refute it at one input. -/
def srvtabFindsWrong : ChangeSpec := { name := "srvtabFinds", fn := fun _ => fun
  | [d1, d2, d3, d4, d5, d6, d7, d8] => { results := [.lit (.bool false)], args := [d1, d2, d3, d4, d5, d6, d7, d8] }
  | _ => none }
def SrvtabFindsWrongFalsely : Prop := srvtabFindsRow.holds Try.pinned (OpenSpec.ofChange srvtabFindsWrong)

/-- 'kerbsuitelaw13.SrvtabLatest': WHATEVER THE INPUT: true; the input reads as it did. -/
def srvtabLatestSpec : ChangeSpec := { name := "srvtabLatest", fn := fun _ => fun
  | [d1, d2, d3, d4] => { results := [.lit (.bool true)], args := [d1, d2, d3, d4] }
  | _ => none }
def srvtabLatestRow : OpenClaim := { program := "ytenfgknhongaaaa", sum := "a478e1180ef3b52c032408efbf3dfa4edbcbd17fbd771c54e51791b4b56f38ae", func := "kerbsuite/kerbsuitelaw13.SrvtabLatest", spec := "srvtabLatest", inPlace := ["internal/bytealg.IndexByteString"], plainKeys := false, apart := false }
def SrvtabLatestSaid : Prop := srvtabLatestRow.holds Try.pinned (OpenSpec.ofChange srvtabLatestSpec)

/-- ITS FALSE NEIGHBOUR: 'it returns false'. Refute it at one input. -/
def srvtabLatestWrong : ChangeSpec := { name := "srvtabLatest", fn := fun _ => fun
  | [d1, d2, d3, d4] => { results := [.lit (.bool false)], args := [d1, d2, d3, d4] }
  | _ => none }
def SrvtabLatestWrongFalsely : Prop := srvtabLatestRow.holds Try.pinned (OpenSpec.ofChange srvtabLatestWrong)

/-- 'kerbsuitelaw6.TicketChecks': WHATEVER THE INPUT: true; the input reads as it did. -/
def ticketChecksSpec : ChangeSpec := { name := "ticketChecks", fn := fun _ => fun
  | [d1, d2, d3, d4, d5, d6] => { results := [.lit (.bool true)], args := [d1, d2, d3, d4, d5, d6] }
  | _ => none }
def ticketChecksRow : OpenClaim := { program := "ytenfgknhongaaaa", sum := "a478e1180ef3b52c032408efbf3dfa4edbcbd17fbd771c54e51791b4b56f38ae", func := "kerbsuite/kerbsuitelaw6.TicketChecks", spec := "ticketChecks", inPlace := ["internal/bytealg.IndexByteString"], plainKeys := false, apart := false }
def TicketChecksSaid : Prop := ticketChecksRow.holds Try.pinned (OpenSpec.ofChange ticketChecksSpec)

/-- ITS FALSE NEIGHBOUR: 'it returns false'. Refute it at one input. -/
def ticketChecksWrong : ChangeSpec := { name := "ticketChecks", fn := fun _ => fun
  | [d1, d2, d3, d4, d5, d6] => { results := [.lit (.bool false)], args := [d1, d2, d3, d4, d5, d6] }
  | _ => none }
def TicketChecksWrongFalsely : Prop := ticketChecksRow.holds Try.pinned (OpenSpec.ofChange ticketChecksWrong)

/-- 'kerbsuitelaw5.FieldTrip': WHATEVER THE INPUT: true; the input reads as it did. -/
def fieldTripSpec : ChangeSpec := { name := "fieldTrip", fn := fun _ => fun
  | [d1, d2, d3, d4, d5, d6, d7] => { results := [.lit (.bool true)], args := [d1, d2, d3, d4, d5, d6, d7] }
  | _ => none }
def fieldTripRow : OpenClaim := { program := "ytenfgknhongaaaa", sum := "a478e1180ef3b52c032408efbf3dfa4edbcbd17fbd771c54e51791b4b56f38ae", func := "kerbsuite/kerbsuitelaw5.FieldTrip", spec := "fieldTrip", inPlace := ["internal/bytealg.IndexByte", "internal/bytealg.IndexByteString"], plainKeys := false, apart := false }
def FieldTripSaid : Prop := fieldTripRow.holds Try.pinned (OpenSpec.ofChange fieldTripSpec)

/-- ITS FALSE NEIGHBOUR: 'it returns false'. Refute it at one input. -/
def fieldTripWrong : ChangeSpec := { name := "fieldTrip", fn := fun _ => fun
  | [d1, d2, d3, d4, d5, d6, d7] => { results := [.lit (.bool false)], args := [d1, d2, d3, d4, d5, d6, d7] }
  | _ => none }
def FieldTripWrongFalsely : Prop := fieldTripRow.holds Try.pinned (OpenSpec.ofChange fieldTripWrong)

/-- 'kerbsuitelaw15.CcacheChecks': WHATEVER THE INPUT: true; the input reads as it did. -/
def ccacheChecksSpec : ChangeSpec := { name := "ccacheChecks", fn := fun _ => fun
  | [d1, d2, d3, d4, d5, d6, d7] => { results := [.lit (.bool true)], args := [d1, d2, d3, d4, d5, d6, d7] }
  | _ => none }
def ccacheChecksRow : OpenClaim := { program := "ytenfgknhongaaaa", sum := "a478e1180ef3b52c032408efbf3dfa4edbcbd17fbd771c54e51791b4b56f38ae", func := "kerbsuite/kerbsuitelaw15.CcacheChecks", spec := "ccacheChecks", inPlace := ["internal/bytealg.IndexByteString"], unfollowed := true, recurses := true, plainKeys := false, apart := false }
def CcacheChecksSaid : Prop := ccacheChecksRow.holds Try.pinned (OpenSpec.ofChange ccacheChecksSpec)

/-- ITS FALSE NEIGHBOUR: 'it returns false'. Refute it at one input. -/
def ccacheChecksWrong : ChangeSpec := { name := "ccacheChecks", fn := fun _ => fun
  | [d1, d2, d3, d4, d5, d6, d7] => { results := [.lit (.bool false)], args := [d1, d2, d3, d4, d5, d6, d7] }
  | _ => none }
def CcacheChecksWrongFalsely : Prop := ccacheChecksRow.holds Try.pinned (OpenSpec.ofChange ccacheChecksWrong)

/-- 'kerbsuitelaw15.CcacheStores': WHATEVER THE INPUT: true; the input reads as it did. -/
def ccacheStoresSpec : ChangeSpec := { name := "ccacheStores", fn := fun _ => fun
  | [d1, d2, d3, d4, d5, d6] => { results := [.lit (.bool true)], args := [d1, d2, d3, d4, d5, d6] }
  | _ => none }
def ccacheStoresRow : OpenClaim := { program := "ytenfgknhongaaaa", sum := "a478e1180ef3b52c032408efbf3dfa4edbcbd17fbd771c54e51791b4b56f38ae", func := "kerbsuite/kerbsuitelaw15.CcacheStores", spec := "ccacheStores", inPlace := ["internal/bytealg.IndexByteString"], unfollowed := true, recurses := true, plainKeys := false, apart := false }
def CcacheStoresSaid : Prop := ccacheStoresRow.holds Try.pinned (OpenSpec.ofChange ccacheStoresSpec)

/-- ITS FALSE NEIGHBOUR: 'it returns false'. Refute it at one input. -/
def ccacheStoresWrong : ChangeSpec := { name := "ccacheStores", fn := fun _ => fun
  | [d1, d2, d3, d4, d5, d6] => { results := [.lit (.bool false)], args := [d1, d2, d3, d4, d5, d6] }
  | _ => none }
def CcacheStoresWrongFalsely : Prop := ccacheStoresRow.holds Try.pinned (OpenSpec.ofChange ccacheStoresWrong)

/-- 'kerbsuitelaw15.CcacheKeeps': WHATEVER THE INPUT: true; the input reads as it did. -/
def ccacheKeepsSpec : ChangeSpec := { name := "ccacheKeeps", fn := fun _ => fun
  | [d1, d2, d3] => { results := [.lit (.bool true)], args := [d1, d2, d3] }
  | _ => none }
def ccacheKeepsRow : OpenClaim := { program := "ytenfgknhongaaaa", sum := "a478e1180ef3b52c032408efbf3dfa4edbcbd17fbd771c54e51791b4b56f38ae", func := "kerbsuite/kerbsuitelaw15.CcacheKeeps", spec := "ccacheKeeps", inPlace := ["internal/bytealg.IndexByteString"], unfollowed := true, recurses := true, plainKeys := false, apart := false }
def CcacheKeepsSaid : Prop := ccacheKeepsRow.holds Try.pinned (OpenSpec.ofChange ccacheKeepsSpec)

/-- ITS FALSE NEIGHBOUR: 'it returns false'. Refute it at one input. -/
def ccacheKeepsWrong : ChangeSpec := { name := "ccacheKeeps", fn := fun _ => fun
  | [d1, d2, d3] => { results := [.lit (.bool false)], args := [d1, d2, d3] }
  | _ => none }
def CcacheKeepsWrongFalsely : Prop := ccacheKeepsRow.holds Try.pinned (OpenSpec.ofChange ccacheKeepsWrong)

/-- 'kerbsuitelaw7.AuthenticatorEncodes': WHATEVER THE INPUT: true; the input reads as it did. -/
def authenticatorEncodesSpec : ChangeSpec := { name := "authenticatorEncodes", fn := fun _ => fun
  | [d1, d2, d3] => { results := [.lit (.bool true)], args := [d1, d2, d3] }
  | _ => none }
def authenticatorEncodesRow : OpenClaim := { program := "ytenfgknhongaaaa", sum := "a478e1180ef3b52c032408efbf3dfa4edbcbd17fbd771c54e51791b4b56f38ae", func := "kerbsuite/kerbsuitelaw7.AuthenticatorEncodes", spec := "authenticatorEncodes", inPlace := ["internal/bytealg.IndexByteString", "internal/bytealg.IndexByte"], unfollowed := true, recurses := true, plainKeys := false, apart := false }
def AuthenticatorEncodesSaid : Prop := authenticatorEncodesRow.holds Try.pinned (OpenSpec.ofChange authenticatorEncodesSpec)

/-- ITS FALSE NEIGHBOUR: 'it returns false'. Refute it at one input. -/
def authenticatorEncodesWrong : ChangeSpec := { name := "authenticatorEncodes", fn := fun _ => fun
  | [d1, d2, d3] => { results := [.lit (.bool false)], args := [d1, d2, d3] }
  | _ => none }
def AuthenticatorEncodesWrongFalsely : Prop := authenticatorEncodesRow.holds Try.pinned (OpenSpec.ofChange authenticatorEncodesWrong)

/- THE SECOND FORM. 'bulk': how many values and letters a reading holds, each counted each time it is reached (what is shared counts as often as it is met; a slice's spare places count too). A statement '..UptoSaid' is the law's where the arguments, and the package variables that the reading takes, are together of bulk at most 1048576: NARROWER than '..Said'. Prove '..Said' where nothing that the law and all that it calls make is longer than what came in: it says more and counts as full. Else prove '..UptoSaid'. A law counts once. -/
mutual
def uptoBulk {H : Type} : DataW H → Nat
  | .lit (.string bytes) => bytes.length + 1
  | .lit _ => 1
  | .nil => 1
  | .ptr d => uptoBulk d + 1
  | .slice elems spare => uptoBulkAll elems + uptoBulkAll spare + 1
  | .agg parts => uptoBulkAll parts + 1
  | .iface _ d => uptoBulk d + 1
  | .map entries => uptoBulkEntries entries + 1
  | .held _ => 1
def uptoBulkAll {H : Type} : List (DataW H) → Nat
  | [] => 0
  | d :: r => uptoBulk d + uptoBulkAll r
def uptoBulkEntries {H : Type} : List (Lit × DataW H) → Nat
  | [] => 0
  | x :: r => uptoBulkEntry x + uptoBulkEntries r
def uptoBulkEntry {H : Type} : Lit × DataW H → Nat
  | (.string bytes, d) => bytes.length + uptoBulk d + 1
  | (_, d) => uptoBulk d + 1
 end
def uptoSmall : (H : Type) → List (DataW H) → Bool := fun _ ds => decide (uptoBulkAll ds ≤ 1048576)
def OpenSpec.upto (s : _root_.Go.ChangeSpec) : _root_.Go.OpenSpec := { _root_.Go.OpenSpec.ofChange s with cond := some uptoSmall }

/-- 'kerbsuitelaw5.FieldWrites', WHERE WHAT IT READS IS OF BULK AT MOST 1048576: true; the input reads as it did. -/
def fieldWritesUptoRow : OpenClaim := { program := "ytenfgknhongaaaa", sum := "a478e1180ef3b52c032408efbf3dfa4edbcbd17fbd771c54e51791b4b56f38ae", func := "kerbsuite/kerbsuitelaw5.FieldWrites", spec := "fieldWrites", inPlace := ["internal/bytealg.IndexByte"], plainKeys := false, apart := false, narrowed := true }
def FieldWritesUptoSaid : Prop := fieldWritesUptoRow.holds Try.pinned (OpenSpec.upto fieldWritesSpec)

/-- 'kerbsuitelaw5.FieldOrder', WHERE WHAT IT READS IS OF BULK AT MOST 1048576: true; the input reads as it did. -/
def fieldOrderUptoRow : OpenClaim := { program := "ytenfgknhongaaaa", sum := "a478e1180ef3b52c032408efbf3dfa4edbcbd17fbd771c54e51791b4b56f38ae", func := "kerbsuite/kerbsuitelaw5.FieldOrder", spec := "fieldOrder", inPlace := ["internal/bytealg.IndexByte"], plainKeys := false, apart := false, narrowed := true }
def FieldOrderUptoSaid : Prop := fieldOrderUptoRow.holds Try.pinned (OpenSpec.upto fieldOrderSpec)

/-- 'kerbsuitelaw7.AuthenticatorChecks', WHERE WHAT IT READS IS OF BULK AT MOST 1048576: true; the input reads as it did. -/
def authenticatorChecksUptoRow : OpenClaim := { program := "ytenfgknhongaaaa", sum := "a478e1180ef3b52c032408efbf3dfa4edbcbd17fbd771c54e51791b4b56f38ae", func := "kerbsuite/kerbsuitelaw7.AuthenticatorChecks", spec := "authenticatorChecks", inPlace := ["internal/bytealg.IndexByteString"], plainKeys := false, apart := false, narrowed := true }
def AuthenticatorChecksUptoSaid : Prop := authenticatorChecksUptoRow.holds Try.pinned (OpenSpec.upto authenticatorChecksSpec)

/-- 'kerbsuitelaw5.FieldTexts', WHERE WHAT IT READS IS OF BULK AT MOST 1048576: true; the input reads as it did. -/
def fieldTextsUptoRow : OpenClaim := { program := "ytenfgknhongaaaa", sum := "a478e1180ef3b52c032408efbf3dfa4edbcbd17fbd771c54e51791b4b56f38ae", func := "kerbsuite/kerbsuitelaw5.FieldTexts", spec := "fieldTexts", inPlace := ["internal/bytealg.IndexByte", "internal/bytealg.IndexByteString"], plainKeys := false, apart := false, narrowed := true }
def FieldTextsUptoSaid : Prop := fieldTextsUptoRow.holds Try.pinned (OpenSpec.upto fieldTextsSpec)

/-- 'kerbsuitelaw13.SrvtabFinds', WHERE WHAT IT READS IS OF BULK AT MOST 1048576: true; the input reads as it did. -/
def srvtabFindsUptoRow : OpenClaim := { program := "ytenfgknhongaaaa", sum := "a478e1180ef3b52c032408efbf3dfa4edbcbd17fbd771c54e51791b4b56f38ae", func := "kerbsuite/kerbsuitelaw13.SrvtabFinds", spec := "srvtabFinds", inPlace := ["internal/bytealg.IndexByteString"], plainKeys := false, apart := false, narrowed := true }
def SrvtabFindsUptoSaid : Prop := srvtabFindsUptoRow.holds Try.pinned (OpenSpec.upto srvtabFindsSpec)

/-- 'kerbsuitelaw13.SrvtabLatest', WHERE WHAT IT READS IS OF BULK AT MOST 1048576: true; the input reads as it did. -/
def srvtabLatestUptoRow : OpenClaim := { program := "ytenfgknhongaaaa", sum := "a478e1180ef3b52c032408efbf3dfa4edbcbd17fbd771c54e51791b4b56f38ae", func := "kerbsuite/kerbsuitelaw13.SrvtabLatest", spec := "srvtabLatest", inPlace := ["internal/bytealg.IndexByteString"], plainKeys := false, apart := false, narrowed := true }
def SrvtabLatestUptoSaid : Prop := srvtabLatestUptoRow.holds Try.pinned (OpenSpec.upto srvtabLatestSpec)

/-- 'kerbsuitelaw6.TicketChecks', WHERE WHAT IT READS IS OF BULK AT MOST 1048576: true; the input reads as it did. -/
def ticketChecksUptoRow : OpenClaim := { program := "ytenfgknhongaaaa", sum := "a478e1180ef3b52c032408efbf3dfa4edbcbd17fbd771c54e51791b4b56f38ae", func := "kerbsuite/kerbsuitelaw6.TicketChecks", spec := "ticketChecks", inPlace := ["internal/bytealg.IndexByteString"], plainKeys := false, apart := false, narrowed := true }
def TicketChecksUptoSaid : Prop := ticketChecksUptoRow.holds Try.pinned (OpenSpec.upto ticketChecksSpec)

/-- 'kerbsuitelaw5.FieldTrip', WHERE WHAT IT READS IS OF BULK AT MOST 1048576: true; the input reads as it did. -/
def fieldTripUptoRow : OpenClaim := { program := "ytenfgknhongaaaa", sum := "a478e1180ef3b52c032408efbf3dfa4edbcbd17fbd771c54e51791b4b56f38ae", func := "kerbsuite/kerbsuitelaw5.FieldTrip", spec := "fieldTrip", inPlace := ["internal/bytealg.IndexByte", "internal/bytealg.IndexByteString"], plainKeys := false, apart := false, narrowed := true }
def FieldTripUptoSaid : Prop := fieldTripUptoRow.holds Try.pinned (OpenSpec.upto fieldTripSpec)

/-- 'kerbsuitelaw15.CcacheChecks', WHERE WHAT IT READS IS OF BULK AT MOST 1048576: true; the input reads as it did. -/
def ccacheChecksUptoRow : OpenClaim := { program := "ytenfgknhongaaaa", sum := "a478e1180ef3b52c032408efbf3dfa4edbcbd17fbd771c54e51791b4b56f38ae", func := "kerbsuite/kerbsuitelaw15.CcacheChecks", spec := "ccacheChecks", inPlace := ["internal/bytealg.IndexByteString"], unfollowed := true, recurses := true, plainKeys := false, apart := false, narrowed := true }
def CcacheChecksUptoSaid : Prop := ccacheChecksUptoRow.holds Try.pinned (OpenSpec.upto ccacheChecksSpec)

/-- 'kerbsuitelaw15.CcacheStores', WHERE WHAT IT READS IS OF BULK AT MOST 1048576: true; the input reads as it did. -/
def ccacheStoresUptoRow : OpenClaim := { program := "ytenfgknhongaaaa", sum := "a478e1180ef3b52c032408efbf3dfa4edbcbd17fbd771c54e51791b4b56f38ae", func := "kerbsuite/kerbsuitelaw15.CcacheStores", spec := "ccacheStores", inPlace := ["internal/bytealg.IndexByteString"], unfollowed := true, recurses := true, plainKeys := false, apart := false, narrowed := true }
def CcacheStoresUptoSaid : Prop := ccacheStoresUptoRow.holds Try.pinned (OpenSpec.upto ccacheStoresSpec)

/-- 'kerbsuitelaw15.CcacheKeeps', WHERE WHAT IT READS IS OF BULK AT MOST 1048576: true; the input reads as it did. -/
def ccacheKeepsUptoRow : OpenClaim := { program := "ytenfgknhongaaaa", sum := "a478e1180ef3b52c032408efbf3dfa4edbcbd17fbd771c54e51791b4b56f38ae", func := "kerbsuite/kerbsuitelaw15.CcacheKeeps", spec := "ccacheKeeps", inPlace := ["internal/bytealg.IndexByteString"], unfollowed := true, recurses := true, plainKeys := false, apart := false, narrowed := true }
def CcacheKeepsUptoSaid : Prop := ccacheKeepsUptoRow.holds Try.pinned (OpenSpec.upto ccacheKeepsSpec)

/-- 'kerbsuitelaw7.AuthenticatorEncodes', WHERE WHAT IT READS IS OF BULK AT MOST 1048576: true; the input reads as it did. -/
def authenticatorEncodesUptoRow : OpenClaim := { program := "ytenfgknhongaaaa", sum := "a478e1180ef3b52c032408efbf3dfa4edbcbd17fbd771c54e51791b4b56f38ae", func := "kerbsuite/kerbsuitelaw7.AuthenticatorEncodes", spec := "authenticatorEncodes", inPlace := ["internal/bytealg.IndexByteString", "internal/bytealg.IndexByte"], unfollowed := true, recurses := true, plainKeys := false, apart := false, narrowed := true }
def AuthenticatorEncodesUptoSaid : Prop := authenticatorEncodesUptoRow.holds Try.pinned (OpenSpec.upto authenticatorEncodesSpec)

end Rows
end Go.Proofs.Ytenfgknhongaaaa
