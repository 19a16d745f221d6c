/- The statement on the two orders of bytes. -/
import Derived.Test.YtenfgknhongaaaaRows
import Derived.Test.YtenfgknhongaaaaHl13
import Derived.Test.YtenfgknhongaaaaFn6
set_option linter.unusedVariables false
set_option linter.unusedSimpArgs false
namespace Go.Proofs.Ytenfgknhongaaaa.FieldOrderP
open Go Hl Fn Go.RowKit

theorem ownK : ownKnob Try.prog.godebug = none := by kernel_rfl
theorem laidOut : laidOutB Try.prog = true := by kernel_rfl

theorem op_u32 : Opn Try.prog 32 (SInt .u32) := Opn.int Try.underlying32
def al : List (Nat × Bool × (List AV → Prop)) := [(32, false, SInt .u32)]
theorem opA : OpA Try.prog al := ⟨op_u32, by kernel_rfl, by kernel_rfl, of_decide_eq_true (by kernel_rfl), trivial⟩

set_option maxRecDepth 100000 in
theorem contract (xs : List AV) (h : SA al xs) : PC Try.prog 4 xs (.raw (.bool true)) := by
  obtain ⟨a0, _, rfl, ⟨n, h1, _⟩, rfl⟩ := h
  cases h1
  exact FieldOrder_pc n

set_option maxRecDepth 100000 in
theorem lifted (os : Os) (started : os.Started) (H : Type) (enc : TypeId × Value → H) :
    ReturnsInHanded {} Try.checked os 4 .any (Rows.fieldOrderSpec.pre6 enc Try.prog Try.f4 Rows.fieldOrderRow.domain false) (Rows.fieldOrderSpec.post enc Try.prog Try.f4 false true false false) := by
  refine returnsInHanded_of_change (C := Try.checked) ownK started (by kernel_rfl) Try.func4
    (ChangeSpec.witness6 (enc := enc) (C := Try.checked) false ⟨#[], #[.int .u32 0], []⟩ 8 (by kernel_rfl) (by kernel_rfl) (by kernel_rfl) (by kernel_rfl)) ?_
  intro W base args ds gs before hval hW _ _
  refine law_calls al Try.func4 (by kernel_rfl) (by kernel_rfl) (by kernel_rfl) (by kernel_rfl) Try.underlying4 rfl ?_ laidOut opA contract W base args ds gs before hval hW
  intro ds hl
  match ds, hl with
  | [_], _ => rfl

theorem over : Rows.fieldOrderRow.holds Try.pinned (OpenSpec.ofChange Rows.fieldOrderSpec) :=
  OpenClaim.holds_of_wide 4 Try.f4 rfl rfl rfl rfl rfl rfl rfl ⟨rfl, rfl, rfl, rfl, rfl⟩ rfl rfl rfl rfl rfl (by kernel_rfl) Try.func4 (by kernel_rfl)
    (of_decide_eq_true (by kernel_rfl)) (by unfold Func.isWrapper; first | (rw [if_pos (by decide +kernel)]; kernel_rfl) | (rw [if_neg (by decide +kernel)]; exact ⟨rfl, rfl⟩))
    (fun os started H enc _ => lifted os started H enc)

theorem proved : Rows.FieldOrderSaid := over
#print axioms proved
end Go.Proofs.Ytenfgknhongaaaa.FieldOrderP
