/- The statement on TGS requests: for every input the law returns true. -/
import Derived.Test.YtghnigbihllnmaaRows
import Derived.Test.YtghnigbihllnmaaHlD
import Derived.Test.YtghnigbihllnmaaFn49
set_option linter.unusedVariables false
set_option linter.unusedSimpArgs false
namespace Go.Proofs.Ytghnigbihllnmaa.AppTgsP
open Go Hl Fn Go.RowKit
theorem ownK : ownKnob Try.prog.godebug = none := by kernel_rfl
theorem laidOut : laidOutB Try.prog = true := by kernel_rfl
theorem op4 : Opn Try.prog 4 SBool := Opn.bool Try.underlying4
theorem op3 : Opn Try.prog 3 (SInt .i64) := Opn.int Try.underlying3
theorem op9 : Opn Try.prog 9 SStr := Opn.string Try.underlying9
theorem op5 : Opn Try.prog 5 (SInt .u8) := Opn.int Try.underlying5
theorem op22 : Opn Try.prog 22 (SSlc 1 false (SInt .u8)) := Opn.slice (wd := 1) false Try.underlying22 (by kernel_rfl) (by decide) (fun h => by first | rfl | cases h) op5
def F24 : List (Nat × Nat × (List AV → Prop)) := [(4, 1, SBool), (4, 1, SBool), (3, 1, (SInt .i64)), (9, 1, SStr), (22, 1, (SSlc 1 false (SInt .u8))), (22, 1, (SSlc 1 false (SInt .u8)))]
theorem op24 : Opn Try.prog 24 (SF F24) := Opn.struct F24 Try.underlying24 ⟨rfl, rfl, by kernel_rfl, rfl, rfl, by kernel_rfl, rfl, rfl, by kernel_rfl, rfl, rfl, by kernel_rfl, rfl, rfl, by kernel_rfl, rfl, rfl, by kernel_rfl, trivial⟩ (by kernel_rfl) ⟨op4, op4, op3, op9, op22, op22, trivial⟩
def F37 : List (Nat × Nat × (List AV → Prop)) := [(24, 6, (SF F24)), (3, 1, (SInt .i64)), (3, 1, (SInt .i64)), (9, 1, SStr), (9, 1, SStr)]
theorem op37 : Opn Try.prog 37 (SF F37) := Opn.struct F37 Try.underlying37 ⟨rfl, rfl, by kernel_rfl, rfl, rfl, by kernel_rfl, rfl, rfl, by kernel_rfl, rfl, rfl, by kernel_rfl, rfl, rfl, by kernel_rfl, trivial⟩ (by kernel_rfl) ⟨op24, op3, op3, op9, op9, trivial⟩
def F26 : List (Nat × Nat × (List AV → Prop)) := [(4, 1, SBool), (4, 1, SBool), (5, 1, (SInt .u8)), (5, 1, (SInt .u8)), (22, 1, (SSlc 1 false (SInt .u8))), (22, 1, (SSlc 1 false (SInt .u8)))]
theorem op26 : Opn Try.prog 26 (SF F26) := Opn.struct F26 Try.underlying26 ⟨rfl, rfl, by kernel_rfl, rfl, rfl, by kernel_rfl, rfl, rfl, by kernel_rfl, rfl, rfl, by kernel_rfl, rfl, rfl, by kernel_rfl, rfl, rfl, by kernel_rfl, trivial⟩ (by kernel_rfl) ⟨op4, op4, op5, op5, op22, op22, trivial⟩
def al : List (Nat × Bool × (List AV → Prop)) := [(37, true, (SF F37)), (26, true, (SF F26)), (22, false, (SSlc 1 false (SInt .u8)))]
theorem opA : OpA Try.prog al := ⟨op37, by kernel_rfl, by kernel_rfl, of_decide_eq_true (by kernel_rfl), op26, by kernel_rfl, by kernel_rfl, of_decide_eq_true (by kernel_rfl), op22, by kernel_rfl, by kernel_rfl, of_decide_eq_true (by kernel_rfl), trivial⟩

set_option maxRecDepth 100000 in
theorem contract (xs : List AV) (h : SA al xs) : PC Try.prog 4 xs (.raw (.bool true)) := by
  obtain ⟨_, _, rfl, ⟨_, _, rfl, ⟨_, _, rfl, ⟨v0, rfl⟩, _, _, rfl, ⟨v1, rfl⟩, _, _, rfl, ⟨v2, rfl, w2⟩, _, _, rfl, ⟨v3, rfl, w3⟩, _, _, rfl, h4, _, _, rfl, h5, rfl⟩, _, _, rfl, ⟨v6, rfl, w6⟩, _, _, rfl, ⟨v7, rfl, w7⟩, _, _, rfl, ⟨v8, rfl, w8⟩, _, _, rfl, ⟨v9, rfl, w9⟩, rfl⟩, _, _, rfl, ⟨_, _, rfl, ⟨v10, rfl⟩, _, _, rfl, ⟨v11, rfl⟩, _, _, rfl, ⟨v12, rfl, w12⟩, _, _, rfl, ⟨v13, rfl, w13⟩, _, _, rfl, h14, _, _, rfl, h15, rfl⟩, _, _, rfl, h16, rfl⟩ := h
  obtain ⟨v4, rfl, w4⟩ := SSlc.bytes1 h4
  obtain ⟨v5, rfl, w5⟩ := SSlc.bytes1 h5
  obtain ⟨v14, rfl, w14⟩ := SSlc.bytes1 h14
  obtain ⟨v15, rfl, w15⟩ := SSlc.bytes1 h15
  obtain ⟨v16, rfl, w16⟩ := h16.bytes
  exact AppTgs_pc v0 v1 v2 v3 v4 v5 v6 v7 v8 v9 v10 v11 v12 v13 v14 v15 v16 (bounds_u8 w12) (bounds_u8 w13)
set_option maxRecDepth 100000 in
theorem lifted (os : Os) (started : os.Started) (H : Type) (enc : TypeId × Value → H) :
    ReturnsInHanded {} Try.checked os 4 .any (Rows.appTgsSpec.pre6 enc Try.prog Try.f4 Rows.appTgsRow.domain false) (Rows.appTgsSpec.post enc Try.prog Try.f4 false true false false) := by
  refine returnsInHanded_of_change (C := Try.checked) ownK started (by kernel_rfl) Try.func4
    (ChangeSpec.witness6 (enc := enc) (C := Try.checked) false ⟨#[], #[.agg #[.bool false, .bool false, .int .i64 0, .string ⟨#[]⟩, .slice none 0 0, .slice none 0 0, .int .i64 0, .int .i64 0, .string ⟨#[]⟩, .string ⟨#[]⟩], .agg #[.bool false, .bool false, .int .u8 0, .int .u8 0, .slice none 0 0, .slice none 0 0], .slice none 0 0], []⟩ 8 (by kernel_rfl) (by kernel_rfl) (by kernel_rfl) (by kernel_rfl)) ?_
  intro W base args ds gs before hval hW _ _
  refine law_calls al Try.func4 (by kernel_rfl) (by kernel_rfl) (by kernel_rfl) (by kernel_rfl) Try.underlying4 rfl ?_ laidOut opA contract W base args ds gs before hval hW
  intro ds hl
  match ds, hl with
  | [_, _, _], _ => rfl

theorem over : Rows.appTgsRow.holds Try.pinned (OpenSpec.ofChange Rows.appTgsSpec) :=
  OpenClaim.holds_of_wide 4 Try.f4 rfl rfl rfl rfl rfl rfl rfl ⟨rfl, rfl, rfl, rfl, rfl⟩ rfl rfl rfl rfl rfl (by kernel_rfl) Try.func4 (by kernel_rfl)
    (of_decide_eq_true (by kernel_rfl)) (by unfold Func.isWrapper; first | (rw [if_pos (by decide +kernel)]; kernel_rfl) | (rw [if_neg (by decide +kernel)]; exact ⟨rfl, rfl⟩))
    (fun os started H enc _ => lifted os started H enc)

theorem proved : Rows.AppTgsSaid := over
#print axioms proved
end Go.Proofs.Ytghnigbihllnmaa.AppTgsP
