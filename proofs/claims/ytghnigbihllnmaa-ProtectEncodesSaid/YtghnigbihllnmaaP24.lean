/- The statement on the contents of protected messages: for every input the law returns true. -/
import Derived.Test.YtghnigbihllnmaaRows
import Derived.Test.YtghnigbihllnmaaHlD
import Derived.Test.YtghnigbihllnmaaFn59
set_option linter.unusedVariables false
set_option linter.unusedSimpArgs false
namespace Go.Proofs.Ytghnigbihllnmaa.ProtectEncodesP
open Go Hl Fn Go.RowKit
theorem ownK : ownKnob Try.prog.godebug = none := by kernel_rfl
theorem laidOut : laidOutB Try.prog = true := by kernel_rfl
theorem op5 : Opn Try.prog 5 (SInt .u8) := Opn.int Try.underlying5
theorem op22 : Opn Try.prog 22 (SSlc 1 false (SInt .u8)) := Opn.slice (wd := 1) false Try.underlying22 (by kernel_rfl) (by decide) (fun h => by first | rfl | cases h) op5
theorem op3 : Opn Try.prog 3 (SInt .i64) := Opn.int Try.underlying3
def F83 : List (Nat × Nat × (List AV → Prop)) := [(22, 1, (SSlc 1 false (SInt .u8))), (3, 1, (SInt .i64)), (3, 1, (SInt .i64)), (3, 1, (SInt .i64))]
theorem op83 : Opn Try.prog 83 (SF F83) := Opn.struct F83 Try.underlying83 ⟨rfl, rfl, by kernel_rfl, rfl, rfl, by kernel_rfl, rfl, rfl, by kernel_rfl, rfl, rfl, by kernel_rfl, trivial⟩ (by kernel_rfl) ⟨op22, op3, op3, op3, trivial⟩
theorem op4 : Opn Try.prog 4 SBool := Opn.bool Try.underlying4
theorem op65 : Opn Try.prog 65 (SInt .u16) := Opn.int Try.underlying65
def al : List (Nat × Bool × (List AV → Prop)) := [(83, true, (SF F83)), (22, false, (SSlc 1 false (SInt .u8))), (22, false, (SSlc 1 false (SInt .u8))), (4, false, SBool), (22, false, (SSlc 1 false (SInt .u8))), (65, false, (SInt .u16)), (65, false, (SInt .u16))]
theorem opA : OpA Try.prog al := ⟨op83, by kernel_rfl, by kernel_rfl, of_decide_eq_true (by kernel_rfl), op22, by kernel_rfl, by kernel_rfl, of_decide_eq_true (by kernel_rfl), op22, by kernel_rfl, by kernel_rfl, of_decide_eq_true (by kernel_rfl), op4, by kernel_rfl, by kernel_rfl, of_decide_eq_true (by kernel_rfl), op22, by kernel_rfl, by kernel_rfl, of_decide_eq_true (by kernel_rfl), op65, by kernel_rfl, by kernel_rfl, of_decide_eq_true (by kernel_rfl), op65, by kernel_rfl, by kernel_rfl, of_decide_eq_true (by kernel_rfl), trivial⟩

set_option maxRecDepth 100000 in
theorem contract (xs : List AV) (h : SA al xs) : PC Try.prog 8 xs (.raw (.bool true)) := by
  obtain ⟨_, _, rfl, ⟨_, _, rfl, h0, _, _, rfl, ⟨v1, rfl, w1⟩, _, _, rfl, ⟨v2, rfl, w2⟩, _, _, rfl, ⟨v3, rfl, w3⟩, rfl⟩, _, _, rfl, h4, _, _, rfl, h5, _, _, rfl, ⟨v6, h6⟩, _, _, rfl, h7, _, _, rfl, ⟨v8, h8, w8⟩, _, _, rfl, ⟨v9, h9, w9⟩, rfl⟩ := h
  obtain ⟨v0, rfl, w0⟩ := SSlc.bytes1 h0
  obtain ⟨v4, rfl, w4⟩ := h4.bytes
  obtain ⟨v5, rfl, w5⟩ := h5.bytes
  cases h6
  obtain ⟨v7, rfl, w7⟩ := h7.bytes
  cases h8
  cases h9
  exact ProtectEncodes_pc v0 v1 v2 v3 v4 v5 v6 v7 v8 v9 (bounds_u16 w8) (bounds_u16 w9)
set_option maxRecDepth 100000 in
theorem lifted (os : Os) (started : os.Started) (H : Type) (enc : TypeId × Value → H) :
    ReturnsInHanded {} Try.checked os 8 .any (Rows.protectEncodesSpec.pre6 enc Try.prog Try.f8 Rows.protectEncodesRow.domain false) (Rows.protectEncodesSpec.post enc Try.prog Try.f8 false true false false) := by
  refine returnsInHanded_of_change (C := Try.checked) ownK started (by kernel_rfl) Try.func8
    (ChangeSpec.witness6 (enc := enc) (C := Try.checked) false ⟨#[], #[.agg #[.slice none 0 0, .int .i64 0, .int .i64 0, .int .i64 0], .slice none 0 0, .slice none 0 0, .bool false, .slice none 0 0, .int .u16 0, .int .u16 0], []⟩ 8 (by kernel_rfl) (by kernel_rfl) (by kernel_rfl) (by kernel_rfl)) ?_
  intro W base args ds gs before hval hW _ _
  refine law_calls al Try.func8 (by kernel_rfl) (by kernel_rfl) (by kernel_rfl) (by kernel_rfl) Try.underlying4 rfl ?_ laidOut opA contract W base args ds gs before hval hW
  intro ds hl
  match ds, hl with
  | [_, _, _, _, _, _, _], _ => rfl

theorem over : Rows.protectEncodesRow.holds Try.pinned (OpenSpec.ofChange Rows.protectEncodesSpec) :=
  OpenClaim.holds_of_wide 8 Try.f8 rfl rfl rfl rfl rfl rfl rfl ⟨rfl, rfl, rfl, rfl, rfl⟩ rfl rfl rfl rfl rfl (by kernel_rfl) Try.func8 (by kernel_rfl)
    (of_decide_eq_true (by kernel_rfl)) (by unfold Func.isWrapper; first | (rw [if_pos (by decide +kernel)]; kernel_rfl) | (rw [if_neg (by decide +kernel)]; exact ⟨rfl, rfl⟩))
    (fun os started H enc _ => lifted os started H enc)

theorem proved : Rows.ProtectEncodesSaid := over
#print axioms proved
end Go.Proofs.Ytghnigbihllnmaa.ProtectEncodesP
