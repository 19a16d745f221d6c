/- The statement on which authenticators are valid. -/
import Derived.Test.YtenfgknhongaaaaRows
import Derived.Test.YtenfgknhongaaaaHl13
import Derived.Test.YtenfgknhongaaaaFn14
set_option linter.unusedVariables false
set_option linter.unusedSimpArgs false
namespace Go.Proofs.Ytenfgknhongaaaa.AuthenticatorChecksP
open Go Hl Fn Go.RowKit
theorem ownK : ownKnob Try.prog.godebug = none := by kernel_rfl
theorem laidOut : laidOutB Try.prog = true := by kernel_rfl
theorem op9 : Opn Try.prog 9 SStr := Opn.string Try.underlying9
def F24 : List (Nat × Nat × (List AV → Prop)) := [(9, 1, SStr), (9, 1, SStr), (9, 1, SStr)]
theorem op24 : Opn Try.prog 24 (SF F24) := Opn.struct F24 Try.underlying24 ⟨rfl, rfl, by kernel_rfl, rfl, rfl, by kernel_rfl, rfl, rfl, by kernel_rfl, trivial⟩ (by kernel_rfl) ⟨op9, op9, op9, trivial⟩
theorem op3 : Opn Try.prog 3 (SInt .i64) := Opn.int Try.underlying3
def F38 : List (Nat × Nat × (List AV → Prop)) := [(24, 3, (SF F24)), (3, 1, (SInt .i64)), (3, 1, (SInt .i64)), (3, 1, (SInt .i64))]
theorem op38 : Opn Try.prog 38 (SF F38) := Opn.struct F38 Try.underlying38 ⟨rfl, rfl, by kernel_rfl, rfl, rfl, by kernel_rfl, rfl, rfl, by kernel_rfl, rfl, rfl, by kernel_rfl, trivial⟩ (by kernel_rfl) ⟨op24, op3, op3, op3, trivial⟩
theorem op5 : Opn Try.prog 5 (SInt .u8) := Opn.int Try.underlying5
theorem op22 : Opn Try.prog 22 (SSlc 1 false (SInt .u8)) := Opn.slice (wd := 1) false Try.underlying22 (by kernel_rfl) (by decide) (fun h => by first | rfl | cases h) op5
def al : List (Nat × Bool × (List AV → Prop)) := [(38, true, (SF F38)), (22, false, (SSlc 1 false (SInt .u8))), (5, false, (SInt .u8)), (3, false, (SInt .i64)), (5, false, (SInt .u8)), (9, false, SStr)]
theorem opA : OpA Try.prog al := ⟨op38, by kernel_rfl, by kernel_rfl, of_decide_eq_true (by kernel_rfl), op22, by kernel_rfl, by kernel_rfl, of_decide_eq_true (by kernel_rfl), op5, by kernel_rfl, by kernel_rfl, of_decide_eq_true (by kernel_rfl), op3, by kernel_rfl, by kernel_rfl, of_decide_eq_true (by kernel_rfl), op5, by kernel_rfl, by kernel_rfl, of_decide_eq_true (by kernel_rfl), op9, by kernel_rfl, by kernel_rfl, of_decide_eq_true (by kernel_rfl), trivial⟩

set_option maxRecDepth 100000 in
theorem contract (xs : List AV) (h : SA al xs) : PC Try.prog 5 xs (.raw (.bool true)) := by
  obtain ⟨_, _, rfl, ⟨_, _, rfl, ⟨_, _, rfl, ⟨v0, rfl, w0⟩, _, _, rfl, ⟨v1, rfl, w1⟩, _, _, rfl, ⟨v2, rfl, w2⟩, rfl⟩, _, _, rfl, ⟨v3, rfl, w3⟩, _, _, rfl, ⟨v4, rfl, w4⟩, _, _, rfl, ⟨v5, rfl, w5⟩, rfl⟩, _, _, rfl, h6, _, _, rfl, ⟨v7, h7, w7⟩, _, _, rfl, ⟨v8, h8, w8⟩, _, _, rfl, ⟨v9, h9, w9⟩, _, _, rfl, ⟨v10, h10, w10⟩, rfl⟩ := h
  obtain ⟨v6, rfl, w6⟩ := h6.bytes
  cases h7
  cases h8
  cases h9
  cases h10
  exact AuthenticatorChecks_pc v0 v1 v2 v3 v4 v5 v6 v7 v8 v9 v10 (bounds_u8 w7).1 (bounds_u8 w7).2 (bounds_u8 w9).1 (bounds_u8 w9).2
set_option maxRecDepth 100000 in
theorem lifted (os : Os) (started : os.Started) (H : Type) (enc : TypeId × Value → H) :
    ReturnsInHanded {} Try.checked os 5 .any (Rows.authenticatorChecksSpec.pre6 enc Try.prog Try.f5 Rows.authenticatorChecksRow.domain false) (Rows.authenticatorChecksSpec.post enc Try.prog Try.f5 false true false false) := by
  refine returnsInHanded_of_change (C := Try.checked) ownK started (by kernel_rfl) Try.func5
    (ChangeSpec.witness6 (enc := enc) (C := Try.checked) false ⟨#[], #[.agg #[.string ⟨#[]⟩, .string ⟨#[]⟩, .string ⟨#[]⟩, .int .i64 0, .int .i64 0, .int .i64 0], .slice none 0 0, .int .u8 0, .int .i64 0, .int .u8 0, .string ⟨#[]⟩], []⟩ 8 (by kernel_rfl) (by kernel_rfl) (by kernel_rfl) (by kernel_rfl)) ?_
  intro W base args ds gs before hval hW _ _
  refine law_calls al Try.func5 (by kernel_rfl) (by kernel_rfl) (by kernel_rfl) (by kernel_rfl) Try.underlying4 rfl ?_ laidOut opA contract W base args ds gs before hval hW
  intro ds hl
  match ds, hl with
  | [_, _, _, _, _, _], _ => rfl

theorem over : Rows.authenticatorChecksRow.holds Try.pinned (OpenSpec.ofChange Rows.authenticatorChecksSpec) :=
  OpenClaim.holds_of_wide 5 Try.f5 rfl rfl rfl rfl rfl rfl rfl ⟨rfl, rfl, rfl, rfl, rfl⟩ rfl rfl rfl rfl rfl (by kernel_rfl) Try.func5 (by kernel_rfl)
    (of_decide_eq_true (by kernel_rfl)) (by unfold Func.isWrapper; first | (rw [if_pos (by decide +kernel)]; kernel_rfl) | (rw [if_neg (by decide +kernel)]; exact ⟨rfl, rfl⟩))
    (fun os started H enc _ => lifted os started H enc)

theorem proved : Rows.AuthenticatorChecksSaid := over
#print axioms proved
end Go.Proofs.Ytenfgknhongaaaa.AuthenticatorChecksP
