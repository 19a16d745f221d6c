/- The statement on the secret parts of replies of a KDC: for every input the law returns true. -/
import Derived.Test.YtghnigbihllnmaaRows
import Derived.Test.YtghnigbihllnmaaHlD
import Derived.Test.YtghnigbihllnmaaFn53
set_option linter.unusedVariables false
set_option linter.unusedSimpArgs false
namespace Go.Proofs.Ytghnigbihllnmaa.KdcPartsP
open Go Hl Fn Go.RowKit
theorem ownK : ownKnob Try.prog.godebug = none := by kernel_rfl
theorem laidOut : laidOutB Try.prog = true := by kernel_rfl
theorem op45 : Opn Try.prog 45 (SInt .u64) := Opn.int Try.underlying45
theorem op9 : Opn Try.prog 9 SStr := Opn.string Try.underlying9
def F43 : List (Nat × Nat × (List AV → Prop)) := [(9, 1, SStr), (9, 1, SStr), (9, 1, SStr)]
theorem op43 : Opn Try.prog 43 (SF F43) := Opn.struct F43 Try.underlying43 ⟨rfl, rfl, by kernel_rfl, rfl, rfl, by kernel_rfl, rfl, rfl, by kernel_rfl, trivial⟩ (by kernel_rfl) ⟨op9, op9, op9, trivial⟩
theorem op3 : Opn Try.prog 3 (SInt .i64) := Opn.int Try.underlying3
theorem op5 : Opn Try.prog 5 (SInt .u8) := Opn.int Try.underlying5
theorem op22 : Opn Try.prog 22 (SSlc 1 false (SInt .u8)) := Opn.slice (wd := 1) false Try.underlying22 (by kernel_rfl) (by decide) (fun h => by first | rfl | cases h) op5
def F74 : List (Nat × Nat × (List AV → Prop)) := [(45, 1, (SInt .u64)), (43, 3, (SF F43)), (3, 1, (SInt .i64)), (3, 1, (SInt .i64)), (22, 1, (SSlc 1 false (SInt .u8))), (3, 1, (SInt .i64))]
theorem op74 : Opn Try.prog 74 (SF F74) := Opn.struct F74 Try.underlying74 ⟨rfl, rfl, by kernel_rfl, rfl, rfl, by kernel_rfl, rfl, rfl, by kernel_rfl, rfl, rfl, by kernel_rfl, rfl, rfl, by kernel_rfl, rfl, rfl, by kernel_rfl, trivial⟩ (by kernel_rfl) ⟨op45, op43, op3, op3, op22, op3, trivial⟩
theorem op4 : Opn Try.prog 4 SBool := Opn.bool Try.underlying4
def al : List (Nat × Bool × (List AV → Prop)) := [(74, true, (SF F74)), (22, false, (SSlc 1 false (SInt .u8))), (22, false, (SSlc 1 false (SInt .u8))), (4, false, SBool)]
theorem opA : OpA Try.prog al := ⟨op74, by kernel_rfl, by kernel_rfl, of_decide_eq_true (by kernel_rfl), op22, by kernel_rfl, by kernel_rfl, of_decide_eq_true (by kernel_rfl), op22, by kernel_rfl, by kernel_rfl, of_decide_eq_true (by kernel_rfl), op4, by kernel_rfl, by kernel_rfl, of_decide_eq_true (by kernel_rfl), trivial⟩

set_option maxRecDepth 100000 in
theorem contract (xs : List AV) (h : SA al xs) : PC Try.prog 7 xs (.raw (.bool true)) := by
  obtain ⟨_, _, rfl, ⟨_, _, rfl, ⟨v0, rfl, w0⟩, _, _, rfl, ⟨_, _, rfl, ⟨v1, rfl, w1⟩, _, _, rfl, ⟨v2, rfl, w2⟩, _, _, rfl, ⟨v3, rfl, w3⟩, rfl⟩, _, _, rfl, ⟨v4, rfl, w4⟩, _, _, rfl, ⟨v5, rfl, w5⟩, _, _, rfl, h6, _, _, rfl, ⟨v7, rfl, w7⟩, rfl⟩, _, _, rfl, h8, _, _, rfl, h9, _, _, rfl, ⟨v10, h10⟩, rfl⟩ := h
  obtain ⟨v6, rfl, w6⟩ := SSlc.bytes1 h6
  obtain ⟨v8, rfl, w8⟩ := h8.bytes
  obtain ⟨v9, rfl, w9⟩ := h9.bytes
  cases h10
  exact KdcParts_pc v0 v1 v2 v3 v4 v5 v6 v7 v8 v9 v10 (by have := bounds_u64 w0; omega)
set_option maxRecDepth 100000 in
theorem lifted (os : Os) (started : os.Started) (H : Type) (enc : TypeId × Value → H) :
    ReturnsInHanded {} Try.checked os 7 .any (Rows.kdcPartsSpec.pre6 enc Try.prog Try.f7 Rows.kdcPartsRow.domain false) (Rows.kdcPartsSpec.post enc Try.prog Try.f7 false true false false) := by
  refine returnsInHanded_of_change (C := Try.checked) ownK started (by kernel_rfl) Try.func7
    (ChangeSpec.witness6 (enc := enc) (C := Try.checked) false ⟨#[], #[.agg #[.int .u64 0, .string ⟨#[]⟩, .string ⟨#[]⟩, .string ⟨#[]⟩, .int .i64 0, .int .i64 0, .slice none 0 0, .int .i64 0], .slice none 0 0, .slice none 0 0, .bool false], []⟩ 8 (by kernel_rfl) (by kernel_rfl) (by kernel_rfl) (by kernel_rfl)) ?_
  intro W base args ds gs before hval hW _ _
  refine law_calls al Try.func7 (by kernel_rfl) (by kernel_rfl) (by kernel_rfl) (by kernel_rfl) Try.underlying4 rfl ?_ laidOut opA contract W base args ds gs before hval hW
  intro ds hl
  match ds, hl with
  | [_, _, _, _], _ => rfl

theorem over : Rows.kdcPartsRow.holds Try.pinned (OpenSpec.ofChange Rows.kdcPartsSpec) :=
  OpenClaim.holds_of_wide 7 Try.f7 rfl rfl rfl rfl rfl rfl rfl ⟨rfl, rfl, rfl, rfl, rfl⟩ rfl rfl rfl rfl rfl (by kernel_rfl) Try.func7 (by kernel_rfl)
    (of_decide_eq_true (by kernel_rfl)) (by unfold Func.isWrapper; first | (rw [if_pos (by decide +kernel)]; kernel_rfl) | (rw [if_neg (by decide +kernel)]; exact ⟨rfl, rfl⟩))
    (fun os started H enc _ => lifted os started H enc)

theorem proved : Rows.KdcPartsSaid := over
#print axioms proved
end Go.Proofs.Ytghnigbihllnmaa.KdcPartsP
