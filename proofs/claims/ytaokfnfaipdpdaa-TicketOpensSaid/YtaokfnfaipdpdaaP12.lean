/- The statement on tickets that are opened: for every input the law returns true. -/
import Derived.Test.YtaokfnfaipdpdaaRows
import Derived.Test.YtaokfnfaipdpdaaHl13
import Derived.Test.YtaokfnfaipdpdaaFn34
set_option linter.unusedVariables false
set_option linter.unusedSimpArgs false
namespace Go.Proofs.Ytaokfnfaipdpdaa.TicketOpensP
open Go Hl Fn Go.RowKit
theorem ownK : ownKnob Try.prog.godebug = none := by kernel_rfl
theorem laidOut : laidOutB Try.prog = true := by kernel_rfl
theorem op5 : Opn Try.prog 5 (SInt .u8) := Opn.int Try.underlying5
theorem op22 : Opn Try.prog 22 (SSlc 1 false (SInt .u8)) := Opn.slice (wd := 1) false Try.underlying22 (by kernel_rfl) (by decide) (fun h => by first | rfl | cases h) op5
def al : List (Nat × Bool × (List AV → Prop)) := [(22, false, (SSlc 1 false (SInt .u8))), (5, false, (SInt .u8)), (5, false, (SInt .u8))]
theorem opA : OpA Try.prog al := ⟨op22, by kernel_rfl, by kernel_rfl, of_decide_eq_true (by kernel_rfl), op5, by kernel_rfl, by kernel_rfl, of_decide_eq_true (by kernel_rfl), op5, by kernel_rfl, by kernel_rfl, of_decide_eq_true (by kernel_rfl), trivial⟩

set_option maxRecDepth 100000 in
theorem contract (xs : List AV) (h : SA al xs) : PC Try.prog 8 xs (.raw (.bool true)) := by
  obtain ⟨_, _, rfl, h0, _, _, rfl, ⟨v1, h1, w1⟩, _, _, rfl, ⟨v2, h2, w2⟩, rfl⟩ := h
  obtain ⟨v0, rfl, w0⟩ := h0.bytes
  cases h1
  cases h2
  exact TicketOpens_pc v0 v1 v2 (bounds_u8 w1) (bounds_u8 w2)
set_option maxRecDepth 100000 in
theorem lifted (os : Os) (started : os.Started) (H : Type) (enc : TypeId × Value → H) :
    ReturnsInHanded {} Try.checked os 8 .any (Rows.ticketOpensSpec.pre6 enc Try.prog Try.f8 Rows.ticketOpensRow.domain false) (Rows.ticketOpensSpec.post enc Try.prog Try.f8 false true false false) := by
  refine returnsInHanded_of_change (C := Try.checked) ownK started (by kernel_rfl) Try.func8
    (ChangeSpec.witness6 (enc := enc) (C := Try.checked) false ⟨#[], #[.slice none 0 0, .int .u8 0, .int .u8 0], []⟩ 8 (by kernel_rfl) (by kernel_rfl) (by kernel_rfl) (by kernel_rfl)) ?_
  intro W base args ds gs before hval hW _ _
  refine law_calls al Try.func8 (by kernel_rfl) (by kernel_rfl) (by kernel_rfl) (by kernel_rfl) Try.underlying4 rfl ?_ laidOut opA contract W base args ds gs before hval hW
  intro ds hl
  match ds, hl with
  | [_, _, _], _ => rfl

theorem over : Rows.ticketOpensRow.holds Try.pinned (OpenSpec.ofChange Rows.ticketOpensSpec) :=
  OpenClaim.holds_of_wide 8 Try.f8 rfl rfl rfl rfl rfl rfl rfl ⟨rfl, rfl, rfl, rfl, rfl⟩ rfl rfl rfl rfl rfl (by kernel_rfl) Try.func8 (by kernel_rfl)
    (of_decide_eq_true (by kernel_rfl)) (by unfold Func.isWrapper; first | (rw [if_pos (by decide +kernel)]; kernel_rfl) | (rw [if_neg (by decide +kernel)]; exact ⟨rfl, rfl⟩))
    (fun os started H enc _ => lifted os started H enc)

theorem proved : Rows.TicketOpensSaid := over
#print axioms proved
end Go.Proofs.Ytaokfnfaipdpdaa.TicketOpensP
