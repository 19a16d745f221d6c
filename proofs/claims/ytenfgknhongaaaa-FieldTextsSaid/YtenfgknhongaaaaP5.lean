/- The statement on the texts and principals that are read: for every input the law returns true. -/
import Derived.Test.YtenfgknhongaaaaRows
import Derived.Test.YtenfgknhongaaaaHl13
import Derived.Test.YtenfgknhongaaaaFn22
set_option linter.unusedVariables false
set_option linter.unusedSimpArgs false
namespace Go.Proofs.Ytenfgknhongaaaa.FieldTextsP
open Go Hl Fn Go.RowKit
theorem ownK : ownKnob Try.prog.godebug = none := by kernel_rfl
theorem laidOut : laidOutB Try.prog = true := by kernel_rfl
theorem op5 : Opn Try.prog 5 (SInt .u8) := Opn.int Try.underlying5
theorem op22 : Opn Try.prog 22 (SSlc 1 false (SInt .u8)) := Opn.slice (wd := 1) false Try.underlying22 (by kernel_rfl) (by decide) (fun h => by first | rfl | cases h) op5
theorem op3 : Opn Try.prog 3 (SInt .i64) := Opn.int Try.underlying3
theorem op44 : Opn Try.prog 44 (SInt .u16) := Opn.int Try.underlying44
def al : List (Nat × Bool × (List AV → Prop)) := [(22, false, (SSlc 1 false (SInt .u8))), (3, false, (SInt .i64)), (5, false, (SInt .u8)), (5, false, (SInt .u8)), (44, false, (SInt .u16))]
theorem opA : OpA Try.prog al := ⟨op22, by kernel_rfl, by kernel_rfl, of_decide_eq_true (by kernel_rfl), op3, by kernel_rfl, by kernel_rfl, of_decide_eq_true (by kernel_rfl), op5, by kernel_rfl, by kernel_rfl, of_decide_eq_true (by kernel_rfl), op5, by kernel_rfl, by kernel_rfl, of_decide_eq_true (by kernel_rfl), op44, by kernel_rfl, by kernel_rfl, of_decide_eq_true (by kernel_rfl), trivial⟩

set_option maxRecDepth 100000 in
theorem contract (xs : List AV) (h : SA al xs) : PC Try.prog 6 xs (.raw (.bool true)) := by
  obtain ⟨_, _, rfl, h0, _, _, rfl, ⟨v1, h1, w1⟩, _, _, rfl, ⟨v2, h2, w2⟩, _, _, rfl, ⟨v3, h3, w3⟩, _, _, rfl, ⟨v4, h4, w4⟩, rfl⟩ := h
  obtain ⟨v0, rfl, w0⟩ := h0.bytes
  cases h1
  cases h2
  cases h3
  cases h4
  exact FieldTexts_pc v0 v1 v2 v3 v4 ⟨(bounds_u8 w2).1, (bounds_u8 w2).2⟩ ⟨(bounds_u8 w3).1, (bounds_u8 w3).2⟩ ⟨(bounds_u16 w4).1, (bounds_u16 w4).2⟩
set_option maxRecDepth 100000 in
theorem lifted (os : Os) (started : os.Started) (H : Type) (enc : TypeId × Value → H) :
    ReturnsInHanded {} Try.checked os 6 .any (Rows.fieldTextsSpec.pre6 enc Try.prog Try.f6 Rows.fieldTextsRow.domain false) (Rows.fieldTextsSpec.post enc Try.prog Try.f6 false true false false) := by
  refine returnsInHanded_of_change (C := Try.checked) ownK started (by kernel_rfl) Try.func6
    (ChangeSpec.witness6 (enc := enc) (C := Try.checked) false ⟨#[], #[.slice none 0 0, .int .i64 0, .int .u8 0, .int .u8 0, .int .u16 0], []⟩ 8 (by kernel_rfl) (by kernel_rfl) (by kernel_rfl) (by kernel_rfl)) ?_
  intro W base args ds gs before hval hW _ _
  refine law_calls al Try.func6 (by kernel_rfl) (by kernel_rfl) (by kernel_rfl) (by kernel_rfl) Try.underlying4 rfl ?_ laidOut opA contract W base args ds gs before hval hW
  intro ds hl
  match ds, hl with
  | [_, _, _, _, _], _ => rfl

theorem over : Rows.fieldTextsRow.holds Try.pinned (OpenSpec.ofChange Rows.fieldTextsSpec) :=
  OpenClaim.holds_of_wide 6 Try.f6 rfl rfl rfl rfl rfl rfl rfl ⟨rfl, rfl, rfl, rfl, rfl⟩ rfl rfl rfl rfl rfl (by kernel_rfl) Try.func6 (by kernel_rfl)
    (of_decide_eq_true (by kernel_rfl)) (by unfold Func.isWrapper; first | (rw [if_pos (by decide +kernel)]; kernel_rfl) | (rw [if_neg (by decide +kernel)]; exact ⟨rfl, rfl⟩))
    (fun os started H enc _ => lifted os started H enc)

theorem proved : Rows.FieldTextsSaid := over
#print axioms proved
end Go.Proofs.Ytenfgknhongaaaa.FieldTextsP
