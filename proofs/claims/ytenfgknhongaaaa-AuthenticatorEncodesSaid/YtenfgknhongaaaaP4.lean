/- The statement on the bytes of authenticators: for every input the law returns true. -/
import Derived.Test.YtenfgknhongaaaaRows
import Derived.Test.YtenfgknhongaaaaHl13
import Derived.Test.YtenfgknhongaaaaFn18
set_option linter.unusedVariables false
set_option linter.unusedSimpArgs false
namespace Go.Proofs.Ytenfgknhongaaaa.AuthenticatorEncodesP
open Go Hl Fn Go.RowKit
theorem ownK : ownKnob Try.prog.godebug = none := by kernel_rfl
theorem laidOut : laidOutB Try.prog = true := by kernel_rfl
theorem op9 : Opn Try.prog 9 SStr := Opn.string Try.underlying9
def F24 : List (Nat × Nat × (List AV → Prop)) := [(9, 1, SStr), (9, 1, SStr), (9, 1, SStr)]
theorem op24 : Opn Try.prog 24 (SF F24) := Opn.struct F24 Try.underlying24 ⟨rfl, rfl, by kernel_rfl, rfl, rfl, by kernel_rfl, rfl, rfl, by kernel_rfl, trivial⟩ (by kernel_rfl) ⟨op9, op9, op9, trivial⟩
theorem op3 : Opn Try.prog 3 (SInt .i64) := Opn.int Try.underlying3
def F38 : List (Nat × Nat × (List AV → Prop)) := [(24, 3, (SF F24)), (3, 1, (SInt .i64)), (3, 1, (SInt .i64)), (3, 1, (SInt .i64))]
theorem op38 : Opn Try.prog 38 (SF F38) := Opn.struct F38 Try.underlying38 ⟨rfl, rfl, by kernel_rfl, rfl, rfl, by kernel_rfl, rfl, rfl, by kernel_rfl, rfl, rfl, by kernel_rfl, trivial⟩ (by kernel_rfl) ⟨op24, op3, op3, op3, trivial⟩
theorem op5 : Opn Try.prog 5 (SInt .u8) := Opn.int Try.underlying5
theorem op22 : Opn Try.prog 22 (SSlc 1 false (SInt .u8)) := Opn.slice (wd := 1) false Try.underlying22 (by kernel_rfl) (by decide) (fun h => by first | rfl | cases h) op5
theorem op4 : Opn Try.prog 4 SBool := Opn.bool Try.underlying4
def al : List (Nat × Bool × (List AV → Prop)) := [(38, true, (SF F38)), (22, false, (SSlc 1 false (SInt .u8))), (4, false, SBool)]
theorem opA : OpA Try.prog al := ⟨op38, by kernel_rfl, by kernel_rfl, of_decide_eq_true (by kernel_rfl), op22, by kernel_rfl, by kernel_rfl, of_decide_eq_true (by kernel_rfl), op4, by kernel_rfl, by kernel_rfl, of_decide_eq_true (by kernel_rfl), trivial⟩

set_option maxRecDepth 100000 in
theorem contract (xs : List AV) (h : SA al xs) : PC Try.prog 14 xs (.raw (.bool true)) := by
  obtain ⟨_, _, rfl, ⟨_, _, rfl, ⟨_, _, rfl, ⟨v0, rfl, w0⟩, _, _, rfl, ⟨v1, rfl, w1⟩, _, _, rfl, ⟨v2, rfl, w2⟩, rfl⟩, _, _, rfl, ⟨v3, rfl, w3⟩, _, _, rfl, ⟨v4, rfl, w4⟩, _, _, rfl, ⟨v5, rfl, w5⟩, rfl⟩, _, _, rfl, h6, _, _, rfl, ⟨v7, h7⟩, rfl⟩ := h
  obtain ⟨v6, rfl, w6⟩ := h6.bytes
  cases h7
  exact AuthenticatorEncodes_pc v0 v1 v2 v3 v4 v5 v6 v7
set_option maxRecDepth 100000 in
theorem lifted (os : Os) (started : os.Started) (H : Type) (enc : TypeId × Value → H) :
    ReturnsInHanded {} Try.checked os 14 .any (Rows.authenticatorEncodesSpec.pre6 enc Try.prog Try.f14 Rows.authenticatorEncodesRow.domain false) (Rows.authenticatorEncodesSpec.post enc Try.prog Try.f14 false true false false) := by
  refine returnsInHanded_of_change (C := Try.checked) ownK started (by kernel_rfl) Try.func14
    (ChangeSpec.witness6 (enc := enc) (C := Try.checked) false ⟨#[], #[.agg #[.string ⟨#[]⟩, .string ⟨#[]⟩, .string ⟨#[]⟩, .int .i64 0, .int .i64 0, .int .i64 0], .slice none 0 0, .bool false], []⟩ 8 (by kernel_rfl) (by kernel_rfl) (by kernel_rfl) (by kernel_rfl)) ?_
  intro W base args ds gs before hval hW _ _
  refine law_calls al Try.func14 (by kernel_rfl) (by kernel_rfl) (by kernel_rfl) (by kernel_rfl) Try.underlying4 rfl ?_ laidOut opA contract W base args ds gs before hval hW
  intro ds hl
  match ds, hl with
  | [_, _, _], _ => rfl

theorem over : Rows.authenticatorEncodesRow.holds Try.pinned (OpenSpec.ofChange Rows.authenticatorEncodesSpec) :=
  OpenClaim.holds_of_wide 14 Try.f14 rfl rfl rfl rfl rfl rfl rfl ⟨rfl, rfl, rfl, rfl, rfl⟩ rfl rfl rfl rfl rfl (by kernel_rfl) Try.func14 (by kernel_rfl)
    (of_decide_eq_true (by kernel_rfl)) (by unfold Func.isWrapper; first | (rw [if_pos (by decide +kernel)]; kernel_rfl) | (rw [if_neg (by decide +kernel)]; exact ⟨rfl, rfl⟩))
    (fun os started H enc _ => lifted os started H enc)

theorem proved : Rows.AuthenticatorEncodesSaid := over
#print axioms proved
end Go.Proofs.Ytenfgknhongaaaa.AuthenticatorEncodesP
