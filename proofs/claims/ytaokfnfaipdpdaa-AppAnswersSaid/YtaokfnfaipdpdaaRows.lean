/-
  No cell of these rows narrows 'for every input' (looked for: loops, veiled, ifaces, maps, wideKeys, modest, calm, conditions, laid).
  DERIVED. THE GIVEN ROWS OF THIS SEAT. 11 by the template 'for every input the law returns true; each argument reads behind the call as it read before'; 0 by the template 'total and deterministic' (their statements: YtaokfnfaipdpdaaTotals.lean).
  GIVEN WITH THE SEED: the statements are not yours to turn. If you find one false, say at which input.
  Laid BY PROGRAM, IN A SANDBOX (cutbox-rows.mjs): the forced cells as the released guide's own fill.sh prints them over the translation 47cb16f927e40854… (all of the seat's roots in one cut). By AI agents, Wed Nov 11 2026. No macro, syntax, notation, axiom, sorry.
-/
import Derived.Test.YtaokfnfaipdpdaaChecked
import GoSem.Claim
import GoSem.ClaimJoined
import GoSem.ClaimMapViews
import Derived.JoinedTies
import Derived.KernelRfl
namespace Go.Proofs.Ytaokfnfaipdpdaa
/- THE CELL 'sum', in the pinned program and in every row, IS THE sha256 OF THE DUMP (.gsa) THAT YtaokfnfaipdpdaaProg.lean LOADS. Nothing in Lean hashes anything: it is a label: what it is worth is what the hold of that sum in a sandbox is worth. -/
noncomputable def Try.pinned : Pinned := { name := "ytaokfnfaipdpdaa", sum := "47cb16f927e40854fcae64f2b4448a687384c9f051b6b173c09b88978eba4dda", checked := Try.checked }
namespace Rows
def none {H : Type} : Left H := { results := [], args := [] }

/-- 'kerbsuitelaw7.AuthenticatorDecodes': WHATEVER THE INPUT: true; the input reads as it did. -/
def authenticatorDecodesSpec : ChangeSpec := { name := "authenticatorDecodes", fn := fun _ => fun
  | [d1, d2, d3, d4, d5] => { results := [.lit (.bool true)], args := [d1, d2, d3, d4, d5] }
  | _ => none }
def authenticatorDecodesRow : OpenClaim := { program := "ytaokfnfaipdpdaa", sum := "47cb16f927e40854fcae64f2b4448a687384c9f051b6b173c09b88978eba4dda", func := "kerbsuite/kerbsuitelaw7.AuthenticatorDecodes", spec := "authenticatorDecodes", inPlace := ["internal/bytealg.IndexByteString", "internal/bytealg.IndexByte"], unfollowed := true, recurses := true, apart := false }
def AuthenticatorDecodesSaid : Prop := authenticatorDecodesRow.holds Try.pinned (OpenSpec.ofChange authenticatorDecodesSpec)

/-- ITS FALSE NEIGHBOUR: 'it returns false'. Refute it at one input. -/
def authenticatorDecodesWrong : ChangeSpec := { name := "authenticatorDecodes", fn := fun _ => fun
  | [d1, d2, d3, d4, d5] => { results := [.lit (.bool false)], args := [d1, d2, d3, d4, d5] }
  | _ => none }
def AuthenticatorDecodesWrongFalsely : Prop := authenticatorDecodesRow.holds Try.pinned (OpenSpec.ofChange authenticatorDecodesWrong)

/-- 'kerbsuitelaw7.AuthenticatorSeals': WHATEVER THE INPUT: true; the input reads as it did. -/
def authenticatorSealsSpec : ChangeSpec := { name := "authenticatorSeals", fn := fun _ => fun
  | [d1, d2, d3, d4, d5, d6, d7] => { results := [.lit (.bool true)], args := [d1, d2, d3, d4, d5, d6, d7] }
  | _ => none }
def authenticatorSealsRow : OpenClaim := { program := "ytaokfnfaipdpdaa", sum := "47cb16f927e40854fcae64f2b4448a687384c9f051b6b173c09b88978eba4dda", func := "kerbsuite/kerbsuitelaw7.AuthenticatorSeals", spec := "authenticatorSeals", inPlace := ["internal/bytealg.IndexByteString", "internal/bytealg.IndexByte"], unfollowed := true, recurses := true, apart := false }
def AuthenticatorSealsSaid : Prop := authenticatorSealsRow.holds Try.pinned (OpenSpec.ofChange authenticatorSealsSpec)

/-- ITS FALSE NEIGHBOUR: 'it returns false'. Refute it at one input. -/
def authenticatorSealsWrong : ChangeSpec := { name := "authenticatorSeals", fn := fun _ => fun
  | [d1, d2, d3, d4, d5, d6, d7] => { results := [.lit (.bool false)], args := [d1, d2, d3, d4, d5, d6, d7] }
  | _ => none }
def AuthenticatorSealsWrongFalsely : Prop := authenticatorSealsRow.holds Try.pinned (OpenSpec.ofChange authenticatorSealsWrong)

/-- 'kerbsuitelaw7.AuthenticatorBinds': WHATEVER THE INPUT: true; the input reads as it did. -/
def authenticatorBindsSpec : ChangeSpec := { name := "authenticatorBinds", fn := fun _ => fun
  | [d1, d2, d3, d4, d5] => { results := [.lit (.bool true)], args := [d1, d2, d3, d4, d5] }
  | _ => none }
def authenticatorBindsRow : OpenClaim := { program := "ytaokfnfaipdpdaa", sum := "47cb16f927e40854fcae64f2b4448a687384c9f051b6b173c09b88978eba4dda", func := "kerbsuite/kerbsuitelaw7.AuthenticatorBinds", spec := "authenticatorBinds", inPlace := ["internal/bytealg.IndexByteString", "internal/bytealg.IndexByte"], unfollowed := true, recurses := true, apart := false }
def AuthenticatorBindsSaid : Prop := authenticatorBindsRow.holds Try.pinned (OpenSpec.ofChange authenticatorBindsSpec)

/-- ITS FALSE NEIGHBOUR: 'it returns false'. Refute it at one input. -/
def authenticatorBindsWrong : ChangeSpec := { name := "authenticatorBinds", fn := fun _ => fun
  | [d1, d2, d3, d4, d5] => { results := [.lit (.bool false)], args := [d1, d2, d3, d4, d5] }
  | _ => none }
def AuthenticatorBindsWrongFalsely : Prop := authenticatorBindsRow.holds Try.pinned (OpenSpec.ofChange authenticatorBindsWrong)

/-- 'kerbsuitelaw6.TicketEncodes': WHATEVER THE INPUT: true; the input reads as it did. -/
def ticketEncodesSpec : ChangeSpec := { name := "ticketEncodes", fn := fun _ => fun
  | [d1, d2] => { results := [.lit (.bool true)], args := [d1, d2] }
  | _ => none }
def ticketEncodesRow : OpenClaim := { program := "ytaokfnfaipdpdaa", sum := "47cb16f927e40854fcae64f2b4448a687384c9f051b6b173c09b88978eba4dda", func := "kerbsuite/kerbsuitelaw6.TicketEncodes", spec := "ticketEncodes", inPlace := ["internal/bytealg.IndexByteString", "internal/bytealg.IndexByte"], unfollowed := true, recurses := true, apart := false }
def TicketEncodesSaid : Prop := ticketEncodesRow.holds Try.pinned (OpenSpec.ofChange ticketEncodesSpec)

/-- ITS FALSE NEIGHBOUR: 'it returns false'. Refute it at one input. -/
def ticketEncodesWrong : ChangeSpec := { name := "ticketEncodes", fn := fun _ => fun
  | [d1, d2] => { results := [.lit (.bool false)], args := [d1, d2] }
  | _ => none }
def TicketEncodesWrongFalsely : Prop := ticketEncodesRow.holds Try.pinned (OpenSpec.ofChange ticketEncodesWrong)

/-- 'kerbsuitelaw6.TicketDecodes': WHATEVER THE INPUT: true; the input reads as it did. -/
def ticketDecodesSpec : ChangeSpec := { name := "ticketDecodes", fn := fun _ => fun
  | [d1, d2, d3, d4] => { results := [.lit (.bool true)], args := [d1, d2, d3, d4] }
  | _ => none }
def ticketDecodesRow : OpenClaim := { program := "ytaokfnfaipdpdaa", sum := "47cb16f927e40854fcae64f2b4448a687384c9f051b6b173c09b88978eba4dda", func := "kerbsuite/kerbsuitelaw6.TicketDecodes", spec := "ticketDecodes", inPlace := ["internal/bytealg.IndexByteString", "internal/bytealg.IndexByte"], unfollowed := true, recurses := true, apart := false }
def TicketDecodesSaid : Prop := ticketDecodesRow.holds Try.pinned (OpenSpec.ofChange ticketDecodesSpec)

/-- ITS FALSE NEIGHBOUR: 'it returns false'. Refute it at one input. -/
def ticketDecodesWrong : ChangeSpec := { name := "ticketDecodes", fn := fun _ => fun
  | [d1, d2, d3, d4] => { results := [.lit (.bool false)], args := [d1, d2, d3, d4] }
  | _ => none }
def TicketDecodesWrongFalsely : Prop := ticketDecodesRow.holds Try.pinned (OpenSpec.ofChange ticketDecodesWrong)

/-- 'kerbsuitelaw6.TicketOpens': WHATEVER THE INPUT: true; the input reads as it did. -/
def ticketOpensSpec : ChangeSpec := { name := "ticketOpens", fn := fun _ => fun
  | [d1, d2, d3] => { results := [.lit (.bool true)], args := [d1, d2, d3] }
  | _ => none }
def ticketOpensRow : OpenClaim := { program := "ytaokfnfaipdpdaa", sum := "47cb16f927e40854fcae64f2b4448a687384c9f051b6b173c09b88978eba4dda", func := "kerbsuite/kerbsuitelaw6.TicketOpens", spec := "ticketOpens", inPlace := ["internal/bytealg.IndexByteString", "internal/bytealg.IndexByte"], unfollowed := true, recurses := true, apart := false }
def TicketOpensSaid : Prop := ticketOpensRow.holds Try.pinned (OpenSpec.ofChange ticketOpensSpec)

/-- ITS FALSE NEIGHBOUR: 'it returns false'. Refute it at one input. -/
def ticketOpensWrong : ChangeSpec := { name := "ticketOpens", fn := fun _ => fun
  | [d1, d2, d3] => { results := [.lit (.bool false)], args := [d1, d2, d3] }
  | _ => none }
def TicketOpensWrongFalsely : Prop := ticketOpensRow.holds Try.pinned (OpenSpec.ofChange ticketOpensWrong)

/-- 'kerbsuitelaw10.AppAnswers': WHATEVER THE INPUT: true; the input reads as it did. -/
def appAnswersSpec : ChangeSpec := { name := "appAnswers", fn := fun _ => fun
  | [d1, d2, d3, d4, d5, d6, d7] => { results := [.lit (.bool true)], args := [d1, d2, d3, d4, d5, d6, d7] }
  | _ => none }
def appAnswersRow : OpenClaim := { program := "ytaokfnfaipdpdaa", sum := "47cb16f927e40854fcae64f2b4448a687384c9f051b6b173c09b88978eba4dda", func := "kerbsuite/kerbsuitelaw10.AppAnswers", spec := "appAnswers", inPlace := ["internal/bytealg.IndexByteString"], unfollowed := true, recurses := true, apart := false }
def AppAnswersSaid : Prop := appAnswersRow.holds Try.pinned (OpenSpec.ofChange appAnswersSpec)

/-- ITS FALSE NEIGHBOUR: 'it returns false'. Refute it at one input. -/
def appAnswersWrong : ChangeSpec := { name := "appAnswers", fn := fun _ => fun
  | [d1, d2, d3, d4, d5, d6, d7] => { results := [.lit (.bool false)], args := [d1, d2, d3, d4, d5, d6, d7] }
  | _ => none }
def AppAnswersWrongFalsely : Prop := appAnswersRow.holds Try.pinned (OpenSpec.ofChange appAnswersWrong)

/-- 'kerbsuitelaw10.AppRequests': WHATEVER THE INPUT: true; the input reads as it did. -/
def appRequestsSpec : ChangeSpec := { name := "appRequests", fn := fun _ => fun
  | [d1, d2] => { results := [.lit (.bool true)], args := [d1, d2] }
  | _ => none }
def appRequestsRow : OpenClaim := { program := "ytaokfnfaipdpdaa", sum := "47cb16f927e40854fcae64f2b4448a687384c9f051b6b173c09b88978eba4dda", func := "kerbsuite/kerbsuitelaw10.AppRequests", spec := "appRequests", inPlace := ["internal/bytealg.IndexByteString", "internal/bytealg.IndexByte"], unfollowed := true, recurses := true, apart := false }
def AppRequestsSaid : Prop := appRequestsRow.holds Try.pinned (OpenSpec.ofChange appRequestsSpec)

/-- ITS FALSE NEIGHBOUR: 'it returns false'. Refute it at one input. -/
def appRequestsWrong : ChangeSpec := { name := "appRequests", fn := fun _ => fun
  | [d1, d2] => { results := [.lit (.bool false)], args := [d1, d2] }
  | _ => none }
def AppRequestsWrongFalsely : Prop := appRequestsRow.holds Try.pinned (OpenSpec.ofChange appRequestsWrong)

/-- 'kerbsuitelaw10.AppTgs': WHATEVER THE INPUT: true; the input reads as it did. -/
def appTgsSpec : ChangeSpec := { name := "appTgs", fn := fun _ => fun
  | [d1, d2, d3] => { results := [.lit (.bool true)], args := [d1, d2, d3] }
  | _ => none }
def appTgsRow : OpenClaim := { program := "ytaokfnfaipdpdaa", sum := "47cb16f927e40854fcae64f2b4448a687384c9f051b6b173c09b88978eba4dda", func := "kerbsuite/kerbsuitelaw10.AppTgs", spec := "appTgs", inPlace := ["internal/bytealg.IndexByteString", "internal/bytealg.IndexByte"], unfollowed := true, recurses := true, apart := false }
def AppTgsSaid : Prop := appTgsRow.holds Try.pinned (OpenSpec.ofChange appTgsSpec)

/-- ITS FALSE NEIGHBOUR: 'it returns false'. Refute it at one input. -/
def appTgsWrong : ChangeSpec := { name := "appTgs", fn := fun _ => fun
  | [d1, d2, d3] => { results := [.lit (.bool false)], args := [d1, d2, d3] }
  | _ => none }
def AppTgsWrongFalsely : Prop := appTgsRow.holds Try.pinned (OpenSpec.ofChange appTgsWrong)

/-- 'kerbsuitelaw9.KdcRequests': WHATEVER THE INPUT: true; the input reads as it did. -/
def kdcRequestsSpec : ChangeSpec := { name := "kdcRequests", fn := fun _ => fun
  | [d1, d2, d3] => { results := [.lit (.bool true)], args := [d1, d2, d3] }
  | _ => none }
def kdcRequestsRow : OpenClaim := { program := "ytaokfnfaipdpdaa", sum := "47cb16f927e40854fcae64f2b4448a687384c9f051b6b173c09b88978eba4dda", func := "kerbsuite/kerbsuitelaw9.KdcRequests", spec := "kdcRequests", inPlace := ["internal/bytealg.IndexByteString", "internal/bytealg.IndexByte"], unfollowed := true, recurses := true, apart := false }
def KdcRequestsSaid : Prop := kdcRequestsRow.holds Try.pinned (OpenSpec.ofChange kdcRequestsSpec)

/-- ITS FALSE NEIGHBOUR: 'it returns false'. Refute it at one input. -/
def kdcRequestsWrong : ChangeSpec := { name := "kdcRequests", fn := fun _ => fun
  | [d1, d2, d3] => { results := [.lit (.bool false)], args := [d1, d2, d3] }
  | _ => none }
def KdcRequestsWrongFalsely : Prop := kdcRequestsRow.holds Try.pinned (OpenSpec.ofChange kdcRequestsWrong)

/-- 'kerbsuitelaw9.KdcErrors': WHATEVER THE INPUT: true; the input reads as it did. -/
def kdcErrorsSpec : ChangeSpec := { name := "kdcErrors", fn := fun _ => fun
  | [d1, d2, d3, d4, d5] => { results := [.lit (.bool true)], args := [d1, d2, d3, d4, d5] }
  | _ => none }
def kdcErrorsRow : OpenClaim := { program := "ytaokfnfaipdpdaa", sum := "47cb16f927e40854fcae64f2b4448a687384c9f051b6b173c09b88978eba4dda", func := "kerbsuite/kerbsuitelaw9.KdcErrors", spec := "kdcErrors", inPlace := ["internal/bytealg.IndexByteString", "internal/bytealg.IndexByte"], unfollowed := true, recurses := true, apart := false }
def KdcErrorsSaid : Prop := kdcErrorsRow.holds Try.pinned (OpenSpec.ofChange kdcErrorsSpec)

/-- ITS FALSE NEIGHBOUR: 'it returns false'. Refute it at one input. -/
def kdcErrorsWrong : ChangeSpec := { name := "kdcErrors", fn := fun _ => fun
  | [d1, d2, d3, d4, d5] => { results := [.lit (.bool false)], args := [d1, d2, d3, d4, d5] }
  | _ => none }
def KdcErrorsWrongFalsely : Prop := kdcErrorsRow.holds Try.pinned (OpenSpec.ofChange kdcErrorsWrong)

/- THE SECOND FORM. 'bulk': how many values and letters a reading holds, each counted each time it is reached (what is shared counts as often as it is met; a slice's spare places count too). A statement '..UptoSaid' is the law's where the arguments, and the package variables that the reading takes, are together of bulk at most 1048576: NARROWER than '..Said'. Prove '..Said' where nothing that the law and all that it calls make is longer than what came in: it says more and counts as full. Else prove '..UptoSaid'. A law counts once. -/
mutual
def uptoBulk {H : Type} : DataW H → Nat
  | .lit (.string bytes) => bytes.length + 1
  | .lit _ => 1
  | .nil => 1
  | .ptr d => uptoBulk d + 1
  | .slice elems spare => uptoBulkAll elems + uptoBulkAll spare + 1
  | .agg parts => uptoBulkAll parts + 1
  | .iface _ d => uptoBulk d + 1
  | .map entries => uptoBulkEntries entries + 1
  | .held _ => 1
def uptoBulkAll {H : Type} : List (DataW H) → Nat
  | [] => 0
  | d :: r => uptoBulk d + uptoBulkAll r
def uptoBulkEntries {H : Type} : List (Lit × DataW H) → Nat
  | [] => 0
  | x :: r => uptoBulkEntry x + uptoBulkEntries r
def uptoBulkEntry {H : Type} : Lit × DataW H → Nat
  | (.string bytes, d) => bytes.length + uptoBulk d + 1
  | (_, d) => uptoBulk d + 1
 end
def uptoSmall : (H : Type) → List (DataW H) → Bool := fun _ ds => decide (uptoBulkAll ds ≤ 1048576)
def OpenSpec.upto (s : _root_.Go.ChangeSpec) : _root_.Go.OpenSpec := { _root_.Go.OpenSpec.ofChange s with cond := some uptoSmall }

/-- 'kerbsuitelaw7.AuthenticatorDecodes', WHERE WHAT IT READS IS OF BULK AT MOST 1048576: true; the input reads as it did. -/
def authenticatorDecodesUptoRow : OpenClaim := { program := "ytaokfnfaipdpdaa", sum := "47cb16f927e40854fcae64f2b4448a687384c9f051b6b173c09b88978eba4dda", func := "kerbsuite/kerbsuitelaw7.AuthenticatorDecodes", spec := "authenticatorDecodes", inPlace := ["internal/bytealg.IndexByteString", "internal/bytealg.IndexByte"], unfollowed := true, recurses := true, apart := false, narrowed := true }
def AuthenticatorDecodesUptoSaid : Prop := authenticatorDecodesUptoRow.holds Try.pinned (OpenSpec.upto authenticatorDecodesSpec)

/-- 'kerbsuitelaw7.AuthenticatorSeals', WHERE WHAT IT READS IS OF BULK AT MOST 1048576: true; the input reads as it did. -/
def authenticatorSealsUptoRow : OpenClaim := { program := "ytaokfnfaipdpdaa", sum := "47cb16f927e40854fcae64f2b4448a687384c9f051b6b173c09b88978eba4dda", func := "kerbsuite/kerbsuitelaw7.AuthenticatorSeals", spec := "authenticatorSeals", inPlace := ["internal/bytealg.IndexByteString", "internal/bytealg.IndexByte"], unfollowed := true, recurses := true, apart := false, narrowed := true }
def AuthenticatorSealsUptoSaid : Prop := authenticatorSealsUptoRow.holds Try.pinned (OpenSpec.upto authenticatorSealsSpec)

/-- 'kerbsuitelaw7.AuthenticatorBinds', WHERE WHAT IT READS IS OF BULK AT MOST 1048576: true; the input reads as it did. -/
def authenticatorBindsUptoRow : OpenClaim := { program := "ytaokfnfaipdpdaa", sum := "47cb16f927e40854fcae64f2b4448a687384c9f051b6b173c09b88978eba4dda", func := "kerbsuite/kerbsuitelaw7.AuthenticatorBinds", spec := "authenticatorBinds", inPlace := ["internal/bytealg.IndexByteString", "internal/bytealg.IndexByte"], unfollowed := true, recurses := true, apart := false, narrowed := true }
def AuthenticatorBindsUptoSaid : Prop := authenticatorBindsUptoRow.holds Try.pinned (OpenSpec.upto authenticatorBindsSpec)

/-- 'kerbsuitelaw6.TicketEncodes', WHERE WHAT IT READS IS OF BULK AT MOST 1048576: true; the input reads as it did. -/
def ticketEncodesUptoRow : OpenClaim := { program := "ytaokfnfaipdpdaa", sum := "47cb16f927e40854fcae64f2b4448a687384c9f051b6b173c09b88978eba4dda", func := "kerbsuite/kerbsuitelaw6.TicketEncodes", spec := "ticketEncodes", inPlace := ["internal/bytealg.IndexByteString", "internal/bytealg.IndexByte"], unfollowed := true, recurses := true, apart := false, narrowed := true }
def TicketEncodesUptoSaid : Prop := ticketEncodesUptoRow.holds Try.pinned (OpenSpec.upto ticketEncodesSpec)

/-- 'kerbsuitelaw6.TicketDecodes', WHERE WHAT IT READS IS OF BULK AT MOST 1048576: true; the input reads as it did. -/
def ticketDecodesUptoRow : OpenClaim := { program := "ytaokfnfaipdpdaa", sum := "47cb16f927e40854fcae64f2b4448a687384c9f051b6b173c09b88978eba4dda", func := "kerbsuite/kerbsuitelaw6.TicketDecodes", spec := "ticketDecodes", inPlace := ["internal/bytealg.IndexByteString", "internal/bytealg.IndexByte"], unfollowed := true, recurses := true, apart := false, narrowed := true }
def TicketDecodesUptoSaid : Prop := ticketDecodesUptoRow.holds Try.pinned (OpenSpec.upto ticketDecodesSpec)

/-- 'kerbsuitelaw6.TicketOpens', WHERE WHAT IT READS IS OF BULK AT MOST 1048576: true; the input reads as it did. -/
def ticketOpensUptoRow : OpenClaim := { program := "ytaokfnfaipdpdaa", sum := "47cb16f927e40854fcae64f2b4448a687384c9f051b6b173c09b88978eba4dda", func := "kerbsuite/kerbsuitelaw6.TicketOpens", spec := "ticketOpens", inPlace := ["internal/bytealg.IndexByteString", "internal/bytealg.IndexByte"], unfollowed := true, recurses := true, apart := false, narrowed := true }
def TicketOpensUptoSaid : Prop := ticketOpensUptoRow.holds Try.pinned (OpenSpec.upto ticketOpensSpec)

/-- 'kerbsuitelaw10.AppAnswers', WHERE WHAT IT READS IS OF BULK AT MOST 1048576: true; the input reads as it did. -/
def appAnswersUptoRow : OpenClaim := { program := "ytaokfnfaipdpdaa", sum := "47cb16f927e40854fcae64f2b4448a687384c9f051b6b173c09b88978eba4dda", func := "kerbsuite/kerbsuitelaw10.AppAnswers", spec := "appAnswers", inPlace := ["internal/bytealg.IndexByteString"], unfollowed := true, recurses := true, apart := false, narrowed := true }
def AppAnswersUptoSaid : Prop := appAnswersUptoRow.holds Try.pinned (OpenSpec.upto appAnswersSpec)

/-- 'kerbsuitelaw10.AppRequests', WHERE WHAT IT READS IS OF BULK AT MOST 1048576: true; the input reads as it did. -/
def appRequestsUptoRow : OpenClaim := { program := "ytaokfnfaipdpdaa", sum := "47cb16f927e40854fcae64f2b4448a687384c9f051b6b173c09b88978eba4dda", func := "kerbsuite/kerbsuitelaw10.AppRequests", spec := "appRequests", inPlace := ["internal/bytealg.IndexByteString", "internal/bytealg.IndexByte"], unfollowed := true, recurses := true, apart := false, narrowed := true }
def AppRequestsUptoSaid : Prop := appRequestsUptoRow.holds Try.pinned (OpenSpec.upto appRequestsSpec)

/-- 'kerbsuitelaw10.AppTgs', WHERE WHAT IT READS IS OF BULK AT MOST 1048576: true; the input reads as it did. -/
def appTgsUptoRow : OpenClaim := { program := "ytaokfnfaipdpdaa", sum := "47cb16f927e40854fcae64f2b4448a687384c9f051b6b173c09b88978eba4dda", func := "kerbsuite/kerbsuitelaw10.AppTgs", spec := "appTgs", inPlace := ["internal/bytealg.IndexByteString", "internal/bytealg.IndexByte"], unfollowed := true, recurses := true, apart := false, narrowed := true }
def AppTgsUptoSaid : Prop := appTgsUptoRow.holds Try.pinned (OpenSpec.upto appTgsSpec)

/-- 'kerbsuitelaw9.KdcRequests', WHERE WHAT IT READS IS OF BULK AT MOST 1048576: true; the input reads as it did. -/
def kdcRequestsUptoRow : OpenClaim := { program := "ytaokfnfaipdpdaa", sum := "47cb16f927e40854fcae64f2b4448a687384c9f051b6b173c09b88978eba4dda", func := "kerbsuite/kerbsuitelaw9.KdcRequests", spec := "kdcRequests", inPlace := ["internal/bytealg.IndexByteString", "internal/bytealg.IndexByte"], unfollowed := true, recurses := true, apart := false, narrowed := true }
def KdcRequestsUptoSaid : Prop := kdcRequestsUptoRow.holds Try.pinned (OpenSpec.upto kdcRequestsSpec)

/-- 'kerbsuitelaw9.KdcErrors', WHERE WHAT IT READS IS OF BULK AT MOST 1048576: true; the input reads as it did. -/
def kdcErrorsUptoRow : OpenClaim := { program := "ytaokfnfaipdpdaa", sum := "47cb16f927e40854fcae64f2b4448a687384c9f051b6b173c09b88978eba4dda", func := "kerbsuite/kerbsuitelaw9.KdcErrors", spec := "kdcErrors", inPlace := ["internal/bytealg.IndexByteString", "internal/bytealg.IndexByte"], unfollowed := true, recurses := true, apart := false, narrowed := true }
def KdcErrorsUptoSaid : Prop := kdcErrorsUptoRow.holds Try.pinned (OpenSpec.upto kdcErrorsSpec)

end Rows
end Go.Proofs.Ytaokfnfaipdpdaa
