/- The statement on what safe and private messages are opened to: for every input the law returns true. -/
import Derived.Test.YtghnigbihllnmaaGreatRows
import Derived.Test.YtghnigbihllnmaaGreatHlD
import Derived.Test.YtghnigbihllnmaaGreatFn66
set_option linter.unusedVariables false
set_option linter.unusedSimpArgs false
namespace Go.Proofs.YtghnigbihllnmaaGreat.ProtectOpensP
open Go Hl Fn Go.RowKit
theorem ownK : ownKnob Tryz.prog.godebug = none := by kernel_rfl
theorem laidOut : laidOutB Tryz.prog = true := by kernel_rfl
theorem op5 : Opn Tryz.prog 5 (SInt .u8) := Opn.int Tryz.underlying5
theorem op22 : Opn Tryz.prog 22 (SSlc 1 false (SInt .u8)) := Opn.slice (wd := 1) false Tryz.underlying22 (by kernel_rfl) (by decide) (fun h => by first | rfl | cases h) op5
theorem op4 : Opn Tryz.prog 4 SBool := Opn.bool Tryz.underlying4
theorem op23 : Opn Tryz.prog 23 (SInt .u16) := Opn.int Tryz.underlying23
def al : List (Nat × Bool × (List AV → Prop)) := [(22, false, (SSlc 1 false (SInt .u8))), (22, false, (SSlc 1 false (SInt .u8))), (22, false, (SSlc 1 false (SInt .u8))), (4, false, SBool), (4, false, SBool), (5, false, (SInt .u8)), (5, false, (SInt .u8)), (23, false, (SInt .u16))]
theorem opA : OpA Tryz.prog al := ⟨op22, by kernel_rfl, by kernel_rfl, of_decide_eq_true (by kernel_rfl), op22, by kernel_rfl, by kernel_rfl, of_decide_eq_true (by kernel_rfl), op22, by kernel_rfl, by kernel_rfl, of_decide_eq_true (by kernel_rfl), op4, by kernel_rfl, by kernel_rfl, of_decide_eq_true (by kernel_rfl), op4, by kernel_rfl, by kernel_rfl, of_decide_eq_true (by kernel_rfl), op5, by kernel_rfl, by kernel_rfl, of_decide_eq_true (by kernel_rfl), op5, by kernel_rfl, by kernel_rfl, of_decide_eq_true (by kernel_rfl), op23, by kernel_rfl, by kernel_rfl, of_decide_eq_true (by kernel_rfl), trivial⟩

set_option maxRecDepth 100000 in
theorem contract (xs : List AV) (h : SA al xs) : PC Tryz.prog 5 xs (.raw (.bool true)) := by
  obtain ⟨_, _, rfl, h0, _, _, rfl, h1, _, _, rfl, h2, _, _, rfl, ⟨v3, h3⟩, _, _, rfl, ⟨v4, h4⟩, _, _, rfl, ⟨v5, h5, w5⟩, _, _, rfl, ⟨v6, h6, w6⟩, _, _, rfl, ⟨v7, h7, w7⟩, rfl⟩ := h
  obtain ⟨v0, rfl, w0⟩ := h0.bytes
  obtain ⟨v1, rfl, w1⟩ := h1.bytes
  obtain ⟨v2, rfl, w2⟩ := h2.bytes
  cases h3
  cases h4
  cases h5
  cases h6
  cases h7
  exact ProtectOpens_pc v0 v1 v2 v3 v4 v5 v6 v7 (bounds_u8 w5) (bounds_u8 w6) (bounds_u16 w7)
set_option maxRecDepth 100000 in
theorem lifted (os : Os) (started : os.Started) (H : Type) (enc : TypeId × Value → H) :
    ReturnsInHanded {} Tryz.checked os 5 .any (Rows.protectOpensSpec.pre6 enc Tryz.prog Tryz.f5 Rows.protectOpensRow.domain false) (Rows.protectOpensSpec.post enc Tryz.prog Tryz.f5 false true false false) := by
  refine returnsInHanded_of_change (C := Tryz.checked) ownK started (by kernel_rfl) Tryz.func5
    (ChangeSpec.witness6 (enc := enc) (C := Tryz.checked) false ⟨#[], #[.slice none 0 0, .slice none 0 0, .slice none 0 0, .bool false, .bool false, .int .u8 0, .int .u8 0, .int .u16 0], []⟩ 8 (by kernel_rfl) (by kernel_rfl) (by kernel_rfl) (by kernel_rfl)) ?_
  intro W base args ds gs before hval hW _ _
  refine law_calls al Tryz.func5 (by kernel_rfl) (by kernel_rfl) (by kernel_rfl) (by kernel_rfl) Tryz.underlying4 rfl ?_ laidOut opA contract W base args ds gs before hval hW
  intro ds hl
  match ds, hl with
  | [_, _, _, _, _, _, _, _], _ => rfl

theorem over : Rows.protectOpensRow.holds Tryz.pinned (OpenSpec.ofChange Rows.protectOpensSpec) :=
  OpenClaim.holds_of_wide 5 Tryz.f5 rfl rfl rfl rfl rfl rfl rfl ⟨rfl, rfl, rfl, rfl, rfl⟩ rfl rfl rfl rfl rfl (by kernel_rfl) Tryz.func5 (by kernel_rfl)
    (of_decide_eq_true (by kernel_rfl)) (by unfold Func.isWrapper; first | (rw [if_pos (by decide +kernel)]; kernel_rfl) | (rw [if_neg (by decide +kernel)]; exact ⟨rfl, rfl⟩))
    (fun os started H enc _ => lifted os started H enc)

theorem proved : Rows.ProtectOpensSaid := over
#print axioms proved
end Go.Proofs.YtghnigbihllnmaaGreat.ProtectOpensP
