/- The statement on the safe and private messages that are made: for every input the law returns true. -/
import Derived.Test.YtghnigbihllnmaaRows
import Derived.Test.YtghnigbihllnmaaHlD
import Derived.Test.YtghnigbihllnmaaFn59
set_option linter.unusedVariables false
set_option linter.unusedSimpArgs false
namespace Go.Proofs.Ytghnigbihllnmaa.ProtectMakesP
open Go Hl Fn Go.RowKit
theorem ownK : ownKnob Try.prog.godebug = none := by kernel_rfl
theorem laidOut : laidOutB Try.prog = true := by kernel_rfl
theorem op5 : Opn Try.prog 5 (SInt .u8) := Opn.int Try.underlying5
theorem op22 : Opn Try.prog 22 (SSlc 1 false (SInt .u8)) := Opn.slice (wd := 1) false Try.underlying22 (by kernel_rfl) (by decide) (fun h => by first | rfl | cases h) op5
theorem op3 : Opn Try.prog 3 (SInt .i64) := Opn.int Try.underlying3
def F83 : List (Nat × Nat × (List AV → Prop)) := [(22, 1, (SSlc 1 false (SInt .u8))), (3, 1, (SInt .i64)), (3, 1, (SInt .i64)), (3, 1, (SInt .i64))]
theorem op83 : Opn Try.prog 83 (SF F83) := Opn.struct F83 Try.underlying83 ⟨rfl, rfl, by kernel_rfl, rfl, rfl, by kernel_rfl, rfl, rfl, by kernel_rfl, rfl, rfl, by kernel_rfl, trivial⟩ (by kernel_rfl) ⟨op22, op3, op3, op3, trivial⟩
theorem op4 : Opn Try.prog 4 SBool := Opn.bool Try.underlying4
theorem op45 : Opn Try.prog 45 (SInt .u64) := Opn.int Try.underlying45
def al : List (Nat × Bool × (List AV → Prop)) := [(83, true, (SF F83)), (22, false, (SSlc 1 false (SInt .u8))), (22, false, (SSlc 1 false (SInt .u8))), (4, false, SBool), (45, false, (SInt .u64)), (5, false, (SInt .u8))]
theorem opA : OpA Try.prog al := ⟨op83, by kernel_rfl, by kernel_rfl, of_decide_eq_true (by kernel_rfl), op22, by kernel_rfl, by kernel_rfl, of_decide_eq_true (by kernel_rfl), op22, by kernel_rfl, by kernel_rfl, of_decide_eq_true (by kernel_rfl), op4, by kernel_rfl, by kernel_rfl, of_decide_eq_true (by kernel_rfl), op45, by kernel_rfl, by kernel_rfl, of_decide_eq_true (by kernel_rfl), op5, by kernel_rfl, by kernel_rfl, of_decide_eq_true (by kernel_rfl), trivial⟩

set_option maxRecDepth 100000 in
theorem contract (xs : List AV) (h : SA al xs) : PC Try.prog 9 xs (.raw (.bool true)) := by
  obtain ⟨_, _, rfl, ⟨_, _, rfl, h0, _, _, rfl, ⟨v1, rfl, w1⟩, _, _, rfl, ⟨v2, rfl, w2⟩, _, _, rfl, ⟨v3, rfl, w3⟩, rfl⟩, _, _, rfl, h4, _, _, rfl, h5, _, _, rfl, ⟨v6, h6⟩, _, _, rfl, ⟨v7, h7, w7⟩, _, _, rfl, ⟨v8, h8, w8⟩, rfl⟩ := h
  obtain ⟨v0, rfl, w0⟩ := SSlc.bytes1 h0
  obtain ⟨v4, rfl, w4⟩ := h4.bytes
  obtain ⟨v5, rfl, w5⟩ := h5.bytes
  cases h6
  cases h7
  cases h8
  exact ProtectMakes_pc v0 v1 v2 v3 v4 v5 v6 v7 v8 (by have := bounds_u64 w7; omega) (bounds_u8 w8)
set_option maxRecDepth 100000 in
theorem lifted (os : Os) (started : os.Started) (H : Type) (enc : TypeId × Value → H) :
    ReturnsInHanded {} Try.checked os 9 .any (Rows.protectMakesSpec.pre6 enc Try.prog Try.f9 Rows.protectMakesRow.domain false) (Rows.protectMakesSpec.post enc Try.prog Try.f9 false true false false) := by
  refine returnsInHanded_of_change (C := Try.checked) ownK started (by kernel_rfl) Try.func9
    (ChangeSpec.witness6 (enc := enc) (C := Try.checked) false ⟨#[], #[.agg #[.slice none 0 0, .int .i64 0, .int .i64 0, .int .i64 0], .slice none 0 0, .slice none 0 0, .bool false, .int .u64 0, .int .u8 0], []⟩ 8 (by kernel_rfl) (by kernel_rfl) (by kernel_rfl) (by kernel_rfl)) ?_
  intro W base args ds gs before hval hW _ _
  refine law_calls al Try.func9 (by kernel_rfl) (by kernel_rfl) (by kernel_rfl) (by kernel_rfl) Try.underlying4 rfl ?_ laidOut opA contract W base args ds gs before hval hW
  intro ds hl
  match ds, hl with
  | [_, _, _, _, _, _], _ => rfl

theorem over : Rows.protectMakesRow.holds Try.pinned (OpenSpec.ofChange Rows.protectMakesSpec) :=
  OpenClaim.holds_of_wide 9 Try.f9 rfl rfl rfl rfl rfl rfl rfl ⟨rfl, rfl, rfl, rfl, rfl⟩ rfl rfl rfl rfl rfl (by kernel_rfl) Try.func9 (by kernel_rfl)
    (of_decide_eq_true (by kernel_rfl)) (by unfold Func.isWrapper; first | (rw [if_pos (by decide +kernel)]; kernel_rfl) | (rw [if_neg (by decide +kernel)]; exact ⟨rfl, rfl⟩))
    (fun os started H enc _ => lifted os started H enc)

theorem proved : Rows.ProtectMakesSaid := over
#print axioms proved
end Go.Proofs.Ytghnigbihllnmaa.ProtectMakesP
