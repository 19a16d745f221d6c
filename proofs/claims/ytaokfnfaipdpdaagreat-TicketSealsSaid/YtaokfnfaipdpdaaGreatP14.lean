/- The statement on sealed tickets: for every input the law returns true. -/
import Derived.Test.YtaokfnfaipdpdaaGreatRows
import Derived.Test.YtaokfnfaipdpdaaGreatHlD
import Derived.Test.YtaokfnfaipdpdaaGreatFn37
set_option linter.unusedVariables false
set_option linter.unusedSimpArgs false
namespace Go.Proofs.YtaokfnfaipdpdaaGreat.TicketSealsP
open Go Hl Fn Go.RowKit
theorem ownK : ownKnob Tryz.prog.godebug = none := by kernel_rfl
theorem laidOut : laidOutB Tryz.prog = true := by kernel_rfl
theorem op4 : Opn Tryz.prog 4 SBool := Opn.bool Tryz.underlying4
theorem op9 : Opn Tryz.prog 9 SStr := Opn.string Tryz.underlying9
def F23 : List (Nat × Nat × (List AV → Prop)) := [(9, 1, SStr), (9, 1, SStr), (9, 1, SStr)]
theorem op23 : Opn Tryz.prog 23 (SF F23) := Opn.struct F23 Tryz.underlying23 ⟨rfl, rfl, by kernel_rfl, rfl, rfl, by kernel_rfl, rfl, rfl, by kernel_rfl, trivial⟩ (by kernel_rfl) ⟨op9, op9, op9, trivial⟩
theorem op3 : Opn Tryz.prog 3 (SInt .i64) := Opn.int Tryz.underlying3
theorem op25 : Opn Tryz.prog 25 (SInt .u64) := Opn.int Tryz.underlying25
def F27 : List (Nat × Nat × (List AV → Prop)) := [(4, 1, SBool), (23, 3, (SF F23)), (3, 1, (SInt .i64)), (25, 1, (SInt .u64)), (3, 1, (SInt .i64)), (3, 1, (SInt .i64)), (9, 1, SStr), (9, 1, SStr)]
theorem op27 : Opn Tryz.prog 27 (SF F27) := Opn.struct F27 Tryz.underlying27 ⟨rfl, rfl, by kernel_rfl, rfl, rfl, by kernel_rfl, rfl, rfl, by kernel_rfl, rfl, rfl, by kernel_rfl, rfl, rfl, by kernel_rfl, rfl, rfl, by kernel_rfl, rfl, rfl, by kernel_rfl, rfl, rfl, by kernel_rfl, trivial⟩ (by kernel_rfl) ⟨op4, op23, op3, op25, op3, op3, op9, op9, trivial⟩
theorem op5 : Opn Tryz.prog 5 (SInt .u8) := Opn.int Tryz.underlying5
theorem op28 : Opn Tryz.prog 28 (SSlc 1 false (SInt .u8)) := Opn.slice (wd := 1) false Tryz.underlying28 (by kernel_rfl) (by decide) (fun h => by first | rfl | cases h) op5
theorem op29 : Opn Tryz.prog 29 (SInt .u16) := Opn.int Tryz.underlying29
def al : List (Nat × Bool × (List AV → Prop)) := [(27, true, (SF F27)), (28, false, (SSlc 1 false (SInt .u8))), (25, false, (SInt .u64)), (5, false, (SInt .u8)), (28, false, (SSlc 1 false (SInt .u8))), (29, false, (SInt .u16))]
theorem opA : OpA Tryz.prog al := ⟨op27, by kernel_rfl, by kernel_rfl, of_decide_eq_true (by kernel_rfl), op28, by kernel_rfl, by kernel_rfl, of_decide_eq_true (by kernel_rfl), op25, by kernel_rfl, by kernel_rfl, of_decide_eq_true (by kernel_rfl), op5, by kernel_rfl, by kernel_rfl, of_decide_eq_true (by kernel_rfl), op28, by kernel_rfl, by kernel_rfl, of_decide_eq_true (by kernel_rfl), op29, by kernel_rfl, by kernel_rfl, of_decide_eq_true (by kernel_rfl), trivial⟩

set_option maxRecDepth 100000 in
theorem contract (xs : List AV) (h : SA al xs) : PC Tryz.prog 3 xs (.raw (.bool true)) := by
  obtain ⟨_, _, rfl, ⟨_, _, rfl, ⟨v0, rfl⟩, _, _, rfl, ⟨_, _, rfl, ⟨v1, rfl, w1⟩, _, _, rfl, ⟨v2, rfl, w2⟩, _, _, rfl, ⟨v3, rfl, w3⟩, rfl⟩, _, _, rfl, ⟨v4, rfl, w4⟩, _, _, rfl, ⟨v5, rfl, w5⟩, _, _, rfl, ⟨v6, rfl, w6⟩, _, _, rfl, ⟨v7, rfl, w7⟩, _, _, rfl, ⟨v8, rfl, w8⟩, _, _, rfl, ⟨v9, rfl, w9⟩, rfl⟩, _, _, rfl, h10, _, _, rfl, ⟨v11, h11, w11⟩, _, _, rfl, ⟨v12, h12, w12⟩, _, _, rfl, h13, _, _, rfl, ⟨v14, h14, w14⟩, rfl⟩ := h
  obtain ⟨v10, rfl, w10⟩ := h10.bytes
  cases h11
  cases h12
  obtain ⟨v13, rfl, w13⟩ := h13.bytes
  cases h14
  exact TicketSeals_pc v0 v1 v2 v3 v4 v5 v6 v7 v8 v9 v10 v11 v12 v13 v14 (bounds_u64 w5) (bounds_u64 w11) (bounds_u8 w12) (bounds_u16 w14)
set_option maxRecDepth 100000 in
theorem lifted (os : Os) (started : os.Started) (H : Type) (enc : TypeId × Value → H) :
    ReturnsInHanded {} Tryz.checked os 3 .any (Rows.ticketSealsSpec.pre6 enc Tryz.prog Tryz.f3 Rows.ticketSealsRow.domain false) (Rows.ticketSealsSpec.post enc Tryz.prog Tryz.f3 false true false false) := by
  refine returnsInHanded_of_change (C := Tryz.checked) ownK started (by kernel_rfl) Tryz.func3
    (ChangeSpec.witness6 (enc := enc) (C := Tryz.checked) false ⟨#[], #[.agg #[.bool false, .string ⟨#[]⟩, .string ⟨#[]⟩, .string ⟨#[]⟩, .int .i64 0, .int .u64 0, .int .i64 0, .int .i64 0, .string ⟨#[]⟩, .string ⟨#[]⟩], .slice none 0 0, .int .u64 0, .int .u8 0, .slice none 0 0, .int .u16 0], []⟩ 8 (by kernel_rfl) (by kernel_rfl) (by kernel_rfl) (by kernel_rfl)) ?_
  intro W base args ds gs before hval hW _ _
  refine law_calls al Tryz.func3 (by kernel_rfl) (by kernel_rfl) (by kernel_rfl) (by kernel_rfl) Tryz.underlying4 rfl ?_ laidOut opA contract W base args ds gs before hval hW
  intro ds hl
  match ds, hl with
  | [_, _, _, _, _, _], _ => rfl

theorem over : Rows.ticketSealsRow.holds Tryz.pinned (OpenSpec.ofChange Rows.ticketSealsSpec) :=
  OpenClaim.holds_of_wide 3 Tryz.f3 rfl rfl rfl rfl rfl rfl rfl ⟨rfl, rfl, rfl, rfl, rfl⟩ rfl rfl rfl rfl rfl (by kernel_rfl) Tryz.func3 (by kernel_rfl)
    (of_decide_eq_true (by kernel_rfl)) (by unfold Func.isWrapper; first | (rw [if_pos (by decide +kernel)]; kernel_rfl) | (rw [if_neg (by decide +kernel)]; exact ⟨rfl, rfl⟩))
    (fun os started H enc _ => lifted os started H enc)

theorem proved : Rows.TicketSealsSaid := over
#print axioms proved
end Go.Proofs.YtaokfnfaipdpdaaGreat.TicketSealsP
