/- The statement on which tickets are valid: for every input the law returns true. -/
import Derived.Test.YtenfgknhongaaaaRows
import Derived.Test.YtenfgknhongaaaaHl13
import Derived.Test.YtenfgknhongaaaaFn35
set_option linter.unusedVariables false
set_option linter.unusedSimpArgs false
namespace Go.Proofs.Ytenfgknhongaaaa.TicketChecksP
open Go Hl Fn Go.RowKit
theorem ownK : ownKnob Try.prog.godebug = none := by kernel_rfl
theorem laidOut : laidOutB Try.prog = true := by kernel_rfl
theorem op4 : Opn Try.prog 4 SBool := Opn.bool Try.underlying4
theorem op9 : Opn Try.prog 9 SStr := Opn.string Try.underlying9
def F24 : List (Nat × Nat × (List AV → Prop)) := [(9, 1, SStr), (9, 1, SStr), (9, 1, SStr)]
theorem op24 : Opn Try.prog 24 (SF F24) := Opn.struct F24 Try.underlying24 ⟨rfl, rfl, by kernel_rfl, rfl, rfl, by kernel_rfl, rfl, rfl, by kernel_rfl, trivial⟩ (by kernel_rfl) ⟨op9, op9, op9, trivial⟩
theorem op3 : Opn Try.prog 3 (SInt .i64) := Opn.int Try.underlying3
theorem op55 : Opn Try.prog 55 (SInt .u64) := Opn.int Try.underlying55
def F72 : List (Nat × Nat × (List AV → Prop)) := [(4, 1, SBool), (24, 3, (SF F24)), (3, 1, (SInt .i64)), (55, 1, (SInt .u64)), (3, 1, (SInt .i64)), (3, 1, (SInt .i64)), (9, 1, SStr), (9, 1, SStr)]
theorem op72 : Opn Try.prog 72 (SF F72) := Opn.struct F72 Try.underlying72 ⟨rfl, rfl, by kernel_rfl, rfl, rfl, by kernel_rfl, rfl, rfl, by kernel_rfl, rfl, rfl, by kernel_rfl, rfl, rfl, by kernel_rfl, rfl, rfl, by kernel_rfl, rfl, rfl, by kernel_rfl, rfl, rfl, by kernel_rfl, trivial⟩ (by kernel_rfl) ⟨op4, op24, op3, op55, op3, op3, op9, op9, trivial⟩
theorem op5 : Opn Try.prog 5 (SInt .u8) := Opn.int Try.underlying5
theorem op22 : Opn Try.prog 22 (SSlc 1 false (SInt .u8)) := Opn.slice (wd := 1) false Try.underlying22 (by kernel_rfl) (by decide) (fun h => by first | rfl | cases h) op5
def al : List (Nat × Bool × (List AV → Prop)) := [(72, true, (SF F72)), (22, false, (SSlc 1 false (SInt .u8))), (5, false, (SInt .u8)), (3, false, (SInt .i64)), (5, false, (SInt .u8)), (9, false, SStr)]
theorem opA : OpA Try.prog al := ⟨op72, by kernel_rfl, by kernel_rfl, of_decide_eq_true (by kernel_rfl), op22, by kernel_rfl, by kernel_rfl, of_decide_eq_true (by kernel_rfl), op5, by kernel_rfl, by kernel_rfl, of_decide_eq_true (by kernel_rfl), op3, by kernel_rfl, by kernel_rfl, of_decide_eq_true (by kernel_rfl), op5, by kernel_rfl, by kernel_rfl, of_decide_eq_true (by kernel_rfl), op9, by kernel_rfl, by kernel_rfl, of_decide_eq_true (by kernel_rfl), trivial⟩

set_option maxRecDepth 100000 in
theorem contract (xs : List AV) (h : SA al xs) : PC Try.prog 9 xs (.raw (.bool true)) := by
  obtain ⟨_, _, rfl, ⟨_, _, rfl, ⟨v0, rfl⟩, _, _, rfl, ⟨_, _, rfl, ⟨v1, rfl, w1⟩, _, _, rfl, ⟨v2, rfl, w2⟩, _, _, rfl, ⟨v3, rfl, w3⟩, rfl⟩, _, _, rfl, ⟨v4, rfl, w4⟩, _, _, rfl, ⟨v5, rfl, w5⟩, _, _, rfl, ⟨v6, rfl, w6⟩, _, _, rfl, ⟨v7, rfl, w7⟩, _, _, rfl, ⟨v8, rfl, w8⟩, _, _, rfl, ⟨v9, rfl, w9⟩, rfl⟩, _, _, rfl, h10, _, _, rfl, ⟨v11, h11, w11⟩, _, _, rfl, ⟨v12, h12, w12⟩, _, _, rfl, ⟨v13, h13, w13⟩, _, _, rfl, ⟨v14, h14, w14⟩, rfl⟩ := h
  obtain ⟨v10, rfl, w10⟩ := h10.bytes
  cases h11
  cases h12
  cases h13
  cases h14
  exact TicketChecks_pc v0 v1 v2 v3 v4 v5 v6 v7 v8 v9 v10 v11 v12 v13 v14 (bounds_u64 w5) (bounds_u8 w11) (bounds_u8 w13)
set_option maxRecDepth 100000 in
theorem lifted (os : Os) (started : os.Started) (H : Type) (enc : TypeId × Value → H) :
    ReturnsInHanded {} Try.checked os 9 .any (Rows.ticketChecksSpec.pre6 enc Try.prog Try.f9 Rows.ticketChecksRow.domain false) (Rows.ticketChecksSpec.post enc Try.prog Try.f9 false true false false) := by
  refine returnsInHanded_of_change (C := Try.checked) ownK started (by kernel_rfl) Try.func9
    (ChangeSpec.witness6 (enc := enc) (C := Try.checked) false ⟨#[], #[.agg #[.bool false, .string ⟨#[]⟩, .string ⟨#[]⟩, .string ⟨#[]⟩, .int .i64 0, .int .u64 0, .int .i64 0, .int .i64 0, .string ⟨#[]⟩, .string ⟨#[]⟩], .slice none 0 0, .int .u8 0, .int .i64 0, .int .u8 0, .string ⟨#[]⟩], []⟩ 8 (by kernel_rfl) (by kernel_rfl) (by kernel_rfl) (by kernel_rfl)) ?_
  intro W base args ds gs before hval hW _ _
  refine law_calls al Try.func9 (by kernel_rfl) (by kernel_rfl) (by kernel_rfl) (by kernel_rfl) Try.underlying4 rfl ?_ laidOut opA contract W base args ds gs before hval hW
  intro ds hl
  match ds, hl with
  | [_, _, _, _, _, _], _ => rfl

theorem over : Rows.ticketChecksRow.holds Try.pinned (OpenSpec.ofChange Rows.ticketChecksSpec) :=
  OpenClaim.holds_of_wide 9 Try.f9 rfl rfl rfl rfl rfl rfl rfl ⟨rfl, rfl, rfl, rfl, rfl⟩ rfl rfl rfl rfl rfl (by kernel_rfl) Try.func9 (by kernel_rfl)
    (of_decide_eq_true (by kernel_rfl)) (by unfold Func.isWrapper; first | (rw [if_pos (by decide +kernel)]; kernel_rfl) | (rw [if_neg (by decide +kernel)]; exact ⟨rfl, rfl⟩))
    (fun os started H enc _ => lifted os started H enc)

theorem proved : Rows.TicketChecksSaid := over
#print axioms proved
end Go.Proofs.Ytenfgknhongaaaa.TicketChecksP
