/- The statement on sealed authenticators: for every input the law returns true. -/
import Derived.Test.YtaokfnfaipdpdaaRows
import Derived.Test.YtaokfnfaipdpdaaHl13
import Derived.Test.YtaokfnfaipdpdaaFn29
set_option linter.unusedVariables false
set_option linter.unusedSimpArgs false
namespace Go.Proofs.Ytaokfnfaipdpdaa.AuthenticatorSealsP
open Go Hl Fn Go.RowKit
theorem ownK : ownKnob Try.prog.godebug = none := by kernel_rfl
theorem laidOut : laidOutB Try.prog = true := by kernel_rfl
theorem op9 : Opn Try.prog 9 SStr := Opn.string Try.underlying9
def F29 : List (Nat × Nat × (List AV → Prop)) := [(9, 1, SStr), (9, 1, SStr), (9, 1, SStr)]
theorem op29 : Opn Try.prog 29 (SF F29) := Opn.struct F29 Try.underlying29 ⟨rfl, rfl, by kernel_rfl, rfl, rfl, by kernel_rfl, rfl, rfl, by kernel_rfl, trivial⟩ (by kernel_rfl) ⟨op9, op9, op9, trivial⟩
theorem op3 : Opn Try.prog 3 (SInt .i64) := Opn.int Try.underlying3
def F31 : List (Nat × Nat × (List AV → Prop)) := [(29, 3, (SF F29)), (3, 1, (SInt .i64)), (3, 1, (SInt .i64)), (3, 1, (SInt .i64))]
theorem op31 : Opn Try.prog 31 (SF F31) := Opn.struct F31 Try.underlying31 ⟨rfl, rfl, by kernel_rfl, rfl, rfl, by kernel_rfl, rfl, rfl, by kernel_rfl, rfl, rfl, by kernel_rfl, trivial⟩ (by kernel_rfl) ⟨op29, op3, op3, op3, trivial⟩
theorem op5 : Opn Try.prog 5 (SInt .u8) := Opn.int Try.underlying5
theorem op22 : Opn Try.prog 22 (SSlc 1 false (SInt .u8)) := Opn.slice (wd := 1) false Try.underlying22 (by kernel_rfl) (by decide) (fun h => by first | rfl | cases h) op5
theorem op39 : Opn Try.prog 39 (SInt .u64) := Opn.int Try.underlying39
theorem op4 : Opn Try.prog 4 SBool := Opn.bool Try.underlying4
theorem op23 : Opn Try.prog 23 (SInt .u16) := Opn.int Try.underlying23
def al : List (Nat × Bool × (List AV → Prop)) := [(31, true, (SF F31)), (22, false, (SSlc 1 false (SInt .u8))), (39, false, (SInt .u64)), (5, false, (SInt .u8)), (22, false, (SSlc 1 false (SInt .u8))), (4, false, SBool), (23, false, (SInt .u16))]
theorem opA : OpA Try.prog al := ⟨op31, by kernel_rfl, by kernel_rfl, of_decide_eq_true (by kernel_rfl), op22, by kernel_rfl, by kernel_rfl, of_decide_eq_true (by kernel_rfl), op39, by kernel_rfl, by kernel_rfl, of_decide_eq_true (by kernel_rfl), op5, by kernel_rfl, by kernel_rfl, of_decide_eq_true (by kernel_rfl), op22, by kernel_rfl, by kernel_rfl, of_decide_eq_true (by kernel_rfl), op4, by kernel_rfl, by kernel_rfl, of_decide_eq_true (by kernel_rfl), op23, by kernel_rfl, by kernel_rfl, of_decide_eq_true (by kernel_rfl), trivial⟩

set_option maxRecDepth 100000 in
theorem contract (xs : List AV) (h : SA al xs) : PC Try.prog 4 xs (.raw (.bool true)) := by
  obtain ⟨_, _, rfl, ⟨_, _, rfl, ⟨_, _, rfl, ⟨v0, rfl, w0⟩, _, _, rfl, ⟨v1, rfl, w1⟩, _, _, rfl, ⟨v2, rfl, w2⟩, rfl⟩, _, _, rfl, ⟨v3, rfl, w3⟩, _, _, rfl, ⟨v4, rfl, w4⟩, _, _, rfl, ⟨v5, rfl, w5⟩, rfl⟩, _, _, rfl, h6, _, _, rfl, ⟨v7, h7, w7⟩, _, _, rfl, ⟨v8, h8, w8⟩, _, _, rfl, h9, _, _, rfl, ⟨v10, h10⟩, _, _, rfl, ⟨v11, h11, w11⟩, rfl⟩ := h
  obtain ⟨v6, rfl, w6⟩ := h6.bytes
  cases h7
  cases h8
  obtain ⟨v9, rfl, w9⟩ := h9.bytes
  cases h10
  cases h11
  exact AuthenticatorSeals_pc v0 v1 v2 v3 v4 v5 v6 v7 v8 v9 v10 v11 (bounds_u64 w7) (bounds_u8 w8) (bounds_u16 w11)
set_option maxRecDepth 100000 in
theorem lifted (os : Os) (started : os.Started) (H : Type) (enc : TypeId × Value → H) :
    ReturnsInHanded {} Try.checked os 4 .any (Rows.authenticatorSealsSpec.pre6 enc Try.prog Try.f4 Rows.authenticatorSealsRow.domain false) (Rows.authenticatorSealsSpec.post enc Try.prog Try.f4 false true false false) := by
  refine returnsInHanded_of_change (C := Try.checked) ownK started (by kernel_rfl) Try.func4
    (ChangeSpec.witness6 (enc := enc) (C := Try.checked) false ⟨#[], #[.agg #[.string ⟨#[]⟩, .string ⟨#[]⟩, .string ⟨#[]⟩, .int .i64 0, .int .i64 0, .int .i64 0], .slice none 0 0, .int .u64 0, .int .u8 0, .slice none 0 0, .bool false, .int .u16 0], []⟩ 8 (by kernel_rfl) (by kernel_rfl) (by kernel_rfl) (by kernel_rfl)) ?_
  intro W base args ds gs before hval hW _ _
  refine law_calls al Try.func4 (by kernel_rfl) (by kernel_rfl) (by kernel_rfl) (by kernel_rfl) Try.underlying4 rfl ?_ laidOut opA contract W base args ds gs before hval hW
  intro ds hl
  match ds, hl with
  | [_, _, _, _, _, _, _], _ => rfl

theorem over : Rows.authenticatorSealsRow.holds Try.pinned (OpenSpec.ofChange Rows.authenticatorSealsSpec) :=
  OpenClaim.holds_of_wide 4 Try.f4 rfl rfl rfl rfl rfl rfl rfl ⟨rfl, rfl, rfl, rfl, rfl⟩ rfl rfl rfl rfl rfl (by kernel_rfl) Try.func4 (by kernel_rfl)
    (of_decide_eq_true (by kernel_rfl)) (by unfold Func.isWrapper; first | (rw [if_pos (by decide +kernel)]; kernel_rfl) | (rw [if_neg (by decide +kernel)]; exact ⟨rfl, rfl⟩))
    (fun os started H enc _ => lifted os started H enc)

theorem proved : Rows.AuthenticatorSealsSaid := over
#print axioms proved
end Go.Proofs.Ytaokfnfaipdpdaa.AuthenticatorSealsP
