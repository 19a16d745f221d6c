/- The statement on error replies of a KDC: for every input the law returns true. -/
import Derived.Test.YtghnigbihllnmaaRows
import Derived.Test.YtghnigbihllnmaaHlD
import Derived.Test.YtghnigbihllnmaaFn42
set_option linter.unusedVariables false
set_option linter.unusedSimpArgs false
namespace Go.Proofs.Ytghnigbihllnmaa.KdcErrorsP
open Go Hl Fn Go.RowKit
theorem ownK : ownKnob Try.prog.godebug = none := by kernel_rfl
theorem laidOut : laidOutB Try.prog = true := by kernel_rfl
theorem op4 : Opn Try.prog 4 SBool := Opn.bool Try.underlying4
theorem op9 : Opn Try.prog 9 SStr := Opn.string Try.underlying9
def F43 : List (Nat × Nat × (List AV → Prop)) := [(9, 1, SStr), (9, 1, SStr), (9, 1, SStr)]
theorem op43 : Opn Try.prog 43 (SF F43) := Opn.struct F43 Try.underlying43 ⟨rfl, rfl, by kernel_rfl, rfl, rfl, by kernel_rfl, rfl, rfl, by kernel_rfl, trivial⟩ (by kernel_rfl) ⟨op9, op9, op9, trivial⟩
theorem op3 : Opn Try.prog 3 (SInt .i64) := Opn.int Try.underlying3
theorem op31 : Opn Try.prog 31 (SInt .i64) := Opn.int Try.underlying31
def F54 : List (Nat × Nat × (List AV → Prop)) := [(4, 1, SBool), (43, 3, (SF F43)), (3, 1, (SInt .i64)), (31, 1, (SInt .i64)), (9, 1, SStr)]
theorem op54 : Opn Try.prog 54 (SF F54) := Opn.struct F54 Try.underlying54 ⟨rfl, rfl, by kernel_rfl, rfl, rfl, by kernel_rfl, rfl, rfl, by kernel_rfl, rfl, rfl, by kernel_rfl, rfl, rfl, by kernel_rfl, trivial⟩ (by kernel_rfl) ⟨op4, op43, op3, op31, op9, trivial⟩
theorem op5 : Opn Try.prog 5 (SInt .u8) := Opn.int Try.underlying5
def al : List (Nat × Bool × (List AV → Prop)) := [(54, true, (SF F54)), (5, false, (SInt .u8)), (3, false, (SInt .i64)), (9, false, SStr), (4, false, SBool)]
theorem opA : OpA Try.prog al := ⟨op54, by kernel_rfl, by kernel_rfl, of_decide_eq_true (by kernel_rfl), op5, by kernel_rfl, by kernel_rfl, of_decide_eq_true (by kernel_rfl), op3, by kernel_rfl, by kernel_rfl, of_decide_eq_true (by kernel_rfl), op9, by kernel_rfl, by kernel_rfl, of_decide_eq_true (by kernel_rfl), op4, by kernel_rfl, by kernel_rfl, of_decide_eq_true (by kernel_rfl), trivial⟩

set_option maxRecDepth 100000 in
theorem contract (xs : List AV) (h : SA al xs) : PC Try.prog 5 xs (.raw (.bool true)) := by
  obtain ⟨_, _, rfl, ⟨_, _, rfl, ⟨v0, rfl⟩, _, _, rfl, ⟨_, _, rfl, ⟨v1, rfl, w1⟩, _, _, rfl, ⟨v2, rfl, w2⟩, _, _, rfl, ⟨v3, rfl, w3⟩, rfl⟩, _, _, rfl, ⟨v4, rfl, w4⟩, _, _, rfl, ⟨v5, rfl, w5⟩, _, _, rfl, ⟨v6, rfl, w6⟩, rfl⟩, _, _, rfl, ⟨v7, h7, w7⟩, _, _, rfl, ⟨v8, h8, w8⟩, _, _, rfl, ⟨v9, h9, w9⟩, _, _, rfl, ⟨v10, h10⟩, rfl⟩ := h
  cases h7
  cases h8
  cases h9
  cases h10
  exact KdcErrors_pc v0 v1 v2 v3 v4 v5 v6 v7 v8 v9 v10 (bounds_u8 w7)
set_option maxRecDepth 100000 in
theorem lifted (os : Os) (started : os.Started) (H : Type) (enc : TypeId × Value → H) :
    ReturnsInHanded {} Try.checked os 5 .any (Rows.kdcErrorsSpec.pre6 enc Try.prog Try.f5 Rows.kdcErrorsRow.domain false) (Rows.kdcErrorsSpec.post enc Try.prog Try.f5 false true false false) := by
  refine returnsInHanded_of_change (C := Try.checked) ownK started (by kernel_rfl) Try.func5
    (ChangeSpec.witness6 (enc := enc) (C := Try.checked) false ⟨#[], #[.agg #[.bool false, .string ⟨#[]⟩, .string ⟨#[]⟩, .string ⟨#[]⟩, .int .i64 0, .int .i64 0, .string ⟨#[]⟩], .int .u8 0, .int .i64 0, .string ⟨#[]⟩, .bool false], []⟩ 8 (by kernel_rfl) (by kernel_rfl) (by kernel_rfl) (by kernel_rfl)) ?_
  intro W base args ds gs before hval hW _ _
  refine law_calls al Try.func5 (by kernel_rfl) (by kernel_rfl) (by kernel_rfl) (by kernel_rfl) Try.underlying4 rfl ?_ laidOut opA contract W base args ds gs before hval hW
  intro ds hl
  match ds, hl with
  | [_, _, _, _, _], _ => rfl

theorem over : Rows.kdcErrorsRow.holds Try.pinned (OpenSpec.ofChange Rows.kdcErrorsSpec) :=
  OpenClaim.holds_of_wide 5 Try.f5 rfl rfl rfl rfl rfl rfl rfl ⟨rfl, rfl, rfl, rfl, rfl⟩ rfl rfl rfl rfl rfl (by kernel_rfl) Try.func5 (by kernel_rfl)
    (of_decide_eq_true (by kernel_rfl)) (by unfold Func.isWrapper; first | (rw [if_pos (by decide +kernel)]; kernel_rfl) | (rw [if_neg (by decide +kernel)]; exact ⟨rfl, rfl⟩))
    (fun os started H enc _ => lifted os started H enc)

theorem proved : Rows.KdcErrorsSaid := over
#print axioms proved
end Go.Proofs.Ytghnigbihllnmaa.KdcErrorsP
