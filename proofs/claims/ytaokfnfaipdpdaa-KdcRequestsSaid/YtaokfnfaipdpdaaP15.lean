/- The statement on requests to a KDC: for every input the law returns true. -/
import Derived.Test.YtaokfnfaipdpdaaRows
import Derived.Test.YtaokfnfaipdpdaaHlD
import Derived.Test.YtaokfnfaipdpdaaFn40
set_option linter.unusedVariables false
set_option linter.unusedSimpArgs false
namespace Go.Proofs.Ytaokfnfaipdpdaa.KdcRequestsP
open Go Hl Fn Go.RowKit
theorem ownK : ownKnob Try.prog.godebug = none := by kernel_rfl
theorem laidOut : laidOutB Try.prog = true := by kernel_rfl
theorem op4 : Opn Try.prog 4 SBool := Opn.bool Try.underlying4
theorem op9 : Opn Try.prog 9 SStr := Opn.string Try.underlying9
def F29 : List (Nat × Nat × (List AV → Prop)) := [(9, 1, SStr), (9, 1, SStr), (9, 1, SStr)]
theorem op29 : Opn Try.prog 29 (SF F29) := Opn.struct F29 Try.underlying29 ⟨rfl, rfl, by kernel_rfl, rfl, rfl, by kernel_rfl, rfl, rfl, by kernel_rfl, trivial⟩ (by kernel_rfl) ⟨op9, op9, op9, trivial⟩
theorem op3 : Opn Try.prog 3 (SInt .i64) := Opn.int Try.underlying3
def F94 : List (Nat × Nat × (List AV → Prop)) := [(4, 1, SBool), (29, 3, (SF F29)), (3, 1, (SInt .i64)), (3, 1, (SInt .i64)), (9, 1, SStr), (9, 1, SStr)]
theorem op94 : Opn Try.prog 94 (SF F94) := Opn.struct F94 Try.underlying94 ⟨rfl, rfl, by kernel_rfl, rfl, rfl, by kernel_rfl, rfl, rfl, by kernel_rfl, rfl, rfl, by kernel_rfl, rfl, rfl, by kernel_rfl, rfl, rfl, by kernel_rfl, trivial⟩ (by kernel_rfl) ⟨op4, op29, op3, op3, op9, op9, trivial⟩
theorem op5 : Opn Try.prog 5 (SInt .u8) := Opn.int Try.underlying5
theorem op22 : Opn Try.prog 22 (SSlc 1 false (SInt .u8)) := Opn.slice (wd := 1) false Try.underlying22 (by kernel_rfl) (by decide) (fun h => by first | rfl | cases h) op5
def al : List (Nat × Bool × (List AV → Prop)) := [(94, true, (SF F94)), (22, false, (SSlc 1 false (SInt .u8))), (4, false, SBool)]
theorem opA : OpA Try.prog al := ⟨op94, by kernel_rfl, by kernel_rfl, of_decide_eq_true (by kernel_rfl), op22, by kernel_rfl, by kernel_rfl, of_decide_eq_true (by kernel_rfl), op4, by kernel_rfl, by kernel_rfl, of_decide_eq_true (by kernel_rfl), trivial⟩

set_option maxRecDepth 100000 in
theorem contract (xs : List AV) (h : SA al xs) : PC Try.prog 12 xs (.raw (.bool true)) := by
  obtain ⟨_, _, rfl, ⟨_, _, rfl, ⟨v0, rfl⟩, _, _, rfl, ⟨_, _, rfl, ⟨v1, rfl, w1⟩, _, _, rfl, ⟨v2, rfl, w2⟩, _, _, rfl, ⟨v3, rfl, w3⟩, rfl⟩, _, _, rfl, ⟨v4, rfl, w4⟩, _, _, rfl, ⟨v5, rfl, w5⟩, _, _, rfl, ⟨v6, rfl, w6⟩, _, _, rfl, ⟨v7, rfl, w7⟩, rfl⟩, _, _, rfl, h8, _, _, rfl, ⟨v9, h9⟩, rfl⟩ := h
  obtain ⟨v8, rfl, w8⟩ := h8.bytes
  cases h9
  exact KdcRequests_pc v0 v1 v2 v3 v4 v5 v6 v7 v8 v9
set_option maxRecDepth 100000 in
theorem lifted (os : Os) (started : os.Started) (H : Type) (enc : TypeId × Value → H) :
    ReturnsInHanded {} Try.checked os 12 .any (Rows.kdcRequestsSpec.pre6 enc Try.prog Try.f12 Rows.kdcRequestsRow.domain false) (Rows.kdcRequestsSpec.post enc Try.prog Try.f12 false true false false) := by
  refine returnsInHanded_of_change (C := Try.checked) ownK started (by kernel_rfl) Try.func12
    (ChangeSpec.witness6 (enc := enc) (C := Try.checked) false ⟨#[], #[.agg #[.bool false, .string ⟨#[]⟩, .string ⟨#[]⟩, .string ⟨#[]⟩, .int .i64 0, .int .i64 0, .string ⟨#[]⟩, .string ⟨#[]⟩], .slice none 0 0, .bool false], []⟩ 8 (by kernel_rfl) (by kernel_rfl) (by kernel_rfl) (by kernel_rfl)) ?_
  intro W base args ds gs before hval hW _ _
  refine law_calls al Try.func12 (by kernel_rfl) (by kernel_rfl) (by kernel_rfl) (by kernel_rfl) Try.underlying4 rfl ?_ laidOut opA contract W base args ds gs before hval hW
  intro ds hl
  match ds, hl with
  | [_, _, _], _ => rfl

theorem over : Rows.kdcRequestsRow.holds Try.pinned (OpenSpec.ofChange Rows.kdcRequestsSpec) :=
  OpenClaim.holds_of_wide 12 Try.f12 rfl rfl rfl rfl rfl rfl rfl ⟨rfl, rfl, rfl, rfl, rfl⟩ rfl rfl rfl rfl rfl (by kernel_rfl) Try.func12 (by kernel_rfl)
    (of_decide_eq_true (by kernel_rfl)) (by unfold Func.isWrapper; first | (rw [if_pos (by decide +kernel)]; kernel_rfl) | (rw [if_neg (by decide +kernel)]; exact ⟨rfl, rfl⟩))
    (fun os started H enc _ => lifted os started H enc)

theorem proved : Rows.KdcRequestsSaid := over
#print axioms proved
end Go.Proofs.Ytaokfnfaipdpdaa.KdcRequestsP
