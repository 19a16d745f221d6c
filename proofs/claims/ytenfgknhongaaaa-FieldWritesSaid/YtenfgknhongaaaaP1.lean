/- The statement on the writers of field. -/
import Derived.Test.YtenfgknhongaaaaRows
import Derived.Test.YtenfgknhongaaaaHl13
import Derived.Test.YtenfgknhongaaaaFn4
set_option linter.unusedVariables false
set_option linter.unusedSimpArgs false
namespace Go.Proofs.Ytenfgknhongaaaa.FieldWritesP
open Go Hl Fn Go.RowKit

theorem ownK : ownKnob Try.prog.godebug = none := by kernel_rfl
theorem laidOut : laidOutB Try.prog = true := by kernel_rfl

theorem op_u8 : Opn Try.prog 5 (SInt .u8) := Opn.int Try.underlying5
theorem op_bytes : Opn Try.prog 22 (SSlc 1 false (SInt .u8)) := Opn.slice (wd := 1) false Try.underlying22 (by kernel_rfl) (by decide) (fun _ => rfl) op_u8
theorem op_int : Opn Try.prog 3 (SInt .i64) := Opn.int Try.underlying3
theorem op_bool : Opn Try.prog 4 SBool := Opn.bool Try.underlying4
theorem op_string : Opn Try.prog 9 SStr := Opn.string Try.underlying9
def prinF : List (Nat × Nat × (List AV → Prop)) := [(9, 1, SStr), (9, 1, SStr), (9, 1, SStr)]
theorem op_prin : Opn Try.prog 24 (SF prinF) := Opn.struct prinF Try.underlying24 ⟨rfl, rfl, by kernel_rfl, rfl, rfl, by kernel_rfl, rfl, rfl, by kernel_rfl, trivial⟩ (by kernel_rfl) ⟨op_string, op_string, op_string, trivial⟩

def al : List (Nat × Bool × (List AV → Prop)) := [(22, false, SSlc 1 false (SInt .u8)), (3, false, SInt .i64), (4, false, SBool), (9, false, SStr), (24, true, SF prinF)]
theorem opA : OpA Try.prog al := ⟨op_bytes, by kernel_rfl, by kernel_rfl, of_decide_eq_true (by kernel_rfl), op_int, by kernel_rfl, by kernel_rfl, of_decide_eq_true (by kernel_rfl), op_bool, by kernel_rfl, by kernel_rfl, of_decide_eq_true (by kernel_rfl),
  op_string, by kernel_rfl, by kernel_rfl, of_decide_eq_true (by kernel_rfl), op_prin, by kernel_rfl, by kernel_rfl, of_decide_eq_true (by kernel_rfl), trivial⟩

set_option maxRecDepth 100000 in
theorem contract (xs : List AV) (h : SA al xs) : PC Try.prog 3 xs (.raw (.bool true)) := by
  obtain ⟨a0, _, rfl, h0, a1, _, rfl, ⟨n, h1, _⟩, a2, _, rfl, ⟨b, h2⟩, a3, _, rfl, ⟨s, h3, _⟩, ds, _, rfl, ⟨_, _, rfl, ⟨x, rfl, _⟩, _, _, rfl, ⟨y, rfl, _⟩, _, _, rfl, ⟨z, rfl, _⟩, rfl⟩, rfl⟩ := h
  obtain ⟨bs, rfl, _⟩ := h0.bytes
  cases h1; cases h2; cases h3
  exact FieldWrites_ac bs n b s x y z

set_option maxRecDepth 100000 in
theorem lifted (os : Os) (started : os.Started) (H : Type) (enc : TypeId × Value → H) :
    ReturnsInHanded {} Try.checked os 3 .any (Rows.fieldWritesSpec.pre6 enc Try.prog Try.f3 Rows.fieldWritesRow.domain false) (Rows.fieldWritesSpec.post enc Try.prog Try.f3 false true false false) := by
  refine returnsInHanded_of_change (C := Try.checked) ownK started (by kernel_rfl) Try.func3
    (ChangeSpec.witness6 (enc := enc) (C := Try.checked) false ⟨#[], #[.slice none 0 0, .int .i64 0, .bool false, .string ⟨#[]⟩, .agg #[.string ⟨#[]⟩, .string ⟨#[]⟩, .string ⟨#[]⟩]], []⟩ 8 (by kernel_rfl) (by kernel_rfl) (by kernel_rfl) (by kernel_rfl)) ?_
  intro W base args ds gs before hval hW _ _
  refine law_calls al Try.func3 (by kernel_rfl) (by kernel_rfl) (by kernel_rfl) (by kernel_rfl) Try.underlying4 rfl ?_ laidOut opA contract W base args ds gs before hval hW
  intro ds hl
  match ds, hl with
  | [_, _, _, _, _], _ => rfl

theorem over : Rows.fieldWritesRow.holds Try.pinned (OpenSpec.ofChange Rows.fieldWritesSpec) :=
  OpenClaim.holds_of_wide 3 Try.f3 rfl rfl rfl rfl rfl rfl rfl ⟨rfl, rfl, rfl, rfl, rfl⟩ rfl rfl rfl rfl rfl (by kernel_rfl) Try.func3 (by kernel_rfl)
    (of_decide_eq_true (by kernel_rfl)) (by unfold Func.isWrapper; first | (rw [if_pos (by decide +kernel)]; kernel_rfl) | (rw [if_neg (by decide +kernel)]; exact ⟨rfl, rfl⟩))
    (fun os started H enc _ => lifted os started H enc)

theorem proved : Rows.FieldWritesSaid := over
#print axioms proved
end Go.Proofs.Ytenfgknhongaaaa.FieldWritesP
