/- The statement on answers of a service: for every input the law returns true. -/
import Derived.Test.YtaokfnfaipdpdaaRows
import Derived.Test.YtaokfnfaipdpdaaHlD
import Derived.Test.YtaokfnfaipdpdaaFn46
set_option linter.unusedVariables false
set_option linter.unusedSimpArgs false
namespace Go.Proofs.Ytaokfnfaipdpdaa.AppAnswersP
open Go Hl Fn Go.RowKit
theorem ownK : ownKnob Try.prog.godebug = none := by kernel_rfl
theorem laidOut : laidOutB Try.prog = true := by kernel_rfl
theorem op3 : Opn Try.prog 3 (SInt .i64) := Opn.int Try.underlying3
def F63 : List (Nat × Nat × (List AV → Prop)) := [(3, 1, (SInt .i64)), (3, 1, (SInt .i64)), (3, 1, (SInt .i64))]
theorem op63 : Opn Try.prog 63 (SF F63) := Opn.struct F63 Try.underlying63 ⟨rfl, rfl, by kernel_rfl, rfl, rfl, by kernel_rfl, rfl, rfl, by kernel_rfl, trivial⟩ (by kernel_rfl) ⟨op3, op3, op3, trivial⟩
theorem op64 : Opn Try.prog 64 (SInt .u32) := Opn.int Try.underlying64
theorem op5 : Opn Try.prog 5 (SInt .u8) := Opn.int Try.underlying5
theorem op22 : Opn Try.prog 22 (SSlc 1 false (SInt .u8)) := Opn.slice (wd := 1) false Try.underlying22 (by kernel_rfl) (by decide) (fun h => by first | rfl | cases h) op5
theorem op4 : Opn Try.prog 4 SBool := Opn.bool Try.underlying4
theorem op23 : Opn Try.prog 23 (SInt .u16) := Opn.int Try.underlying23
def al : List (Nat × Bool × (List AV → Prop)) := [(63, true, (SF F63)), (64, false, (SInt .u32)), (64, false, (SInt .u32)), (5, false, (SInt .u8)), (22, false, (SSlc 1 false (SInt .u8))), (4, false, SBool), (23, false, (SInt .u16))]
theorem opA : OpA Try.prog al := ⟨op63, by kernel_rfl, by kernel_rfl, of_decide_eq_true (by kernel_rfl), op64, by kernel_rfl, by kernel_rfl, of_decide_eq_true (by kernel_rfl), op64, by kernel_rfl, by kernel_rfl, of_decide_eq_true (by kernel_rfl), op5, by kernel_rfl, by kernel_rfl, of_decide_eq_true (by kernel_rfl), op22, by kernel_rfl, by kernel_rfl, of_decide_eq_true (by kernel_rfl), op4, by kernel_rfl, by kernel_rfl, of_decide_eq_true (by kernel_rfl), op23, by kernel_rfl, by kernel_rfl, of_decide_eq_true (by kernel_rfl), trivial⟩

set_option maxRecDepth 100000 in
theorem contract (xs : List AV) (h : SA al xs) : PC Try.prog 9 xs (.raw (.bool true)) := by
  obtain ⟨_, _, rfl, ⟨_, _, rfl, ⟨v0, rfl, w0⟩, _, _, rfl, ⟨v1, rfl, w1⟩, _, _, rfl, ⟨v2, rfl, w2⟩, rfl⟩, _, _, rfl, ⟨v3, h3, w3⟩, _, _, rfl, ⟨v4, h4, w4⟩, _, _, rfl, ⟨v5, h5, w5⟩, _, _, rfl, h6, _, _, rfl, ⟨v7, h7⟩, _, _, rfl, ⟨v8, h8, w8⟩, rfl⟩ := h
  cases h3
  cases h4
  cases h5
  obtain ⟨v6, rfl, w6⟩ := h6.bytes
  cases h7
  cases h8
  exact AppAnswers_pc v0 v1 v2 v3 v4 v5 v6 v7 v8 (bounds_u32 w3) (bounds_u32 w4) (bounds_u8 w5) (bounds_u16 w8)
set_option maxRecDepth 100000 in
theorem lifted (os : Os) (started : os.Started) (H : Type) (enc : TypeId × Value → H) :
    ReturnsInHanded {} Try.checked os 9 .any (Rows.appAnswersSpec.pre6 enc Try.prog Try.f9 Rows.appAnswersRow.domain false) (Rows.appAnswersSpec.post enc Try.prog Try.f9 false true false false) := by
  refine returnsInHanded_of_change (C := Try.checked) ownK started (by kernel_rfl) Try.func9
    (ChangeSpec.witness6 (enc := enc) (C := Try.checked) false ⟨#[], #[.agg #[.int .i64 0, .int .i64 0, .int .i64 0], .int .u32 0, .int .u32 0, .int .u8 0, .slice none 0 0, .bool false, .int .u16 0], []⟩ 8 (by kernel_rfl) (by kernel_rfl) (by kernel_rfl) (by kernel_rfl)) ?_
  intro W base args ds gs before hval hW _ _
  refine law_calls al Try.func9 (by kernel_rfl) (by kernel_rfl) (by kernel_rfl) (by kernel_rfl) Try.underlying4 rfl ?_ laidOut opA contract W base args ds gs before hval hW
  intro ds hl
  match ds, hl with
  | [_, _, _, _, _, _, _], _ => rfl

theorem over : Rows.appAnswersRow.holds Try.pinned (OpenSpec.ofChange Rows.appAnswersSpec) :=
  OpenClaim.holds_of_wide 9 Try.f9 rfl rfl rfl rfl rfl rfl rfl ⟨rfl, rfl, rfl, rfl, rfl⟩ rfl rfl rfl rfl rfl (by kernel_rfl) Try.func9 (by kernel_rfl)
    (of_decide_eq_true (by kernel_rfl)) (by unfold Func.isWrapper; first | (rw [if_pos (by decide +kernel)]; kernel_rfl) | (rw [if_neg (by decide +kernel)]; exact ⟨rfl, rfl⟩))
    (fun os started H enc _ => lifted os started H enc)

theorem proved : Rows.AppAnswersSaid := over
#print axioms proved
end Go.Proofs.Ytaokfnfaipdpdaa.AppAnswersP
