/- The statement on what is decoded of the messages to services: for every input the law returns true. -/
import Derived.Test.YtghnigbihllnmaaGreatRows
import Derived.Test.YtghnigbihllnmaaGreatHlD
import Derived.Test.YtghnigbihllnmaaGreatFn64
set_option linter.unusedVariables false
set_option linter.unusedSimpArgs false
namespace Go.Proofs.YtghnigbihllnmaaGreat.AppDecodesP
open Go Hl Fn Go.RowKit
theorem ownK : ownKnob Tryz.prog.godebug = none := by kernel_rfl
theorem laidOut : laidOutB Tryz.prog = true := by kernel_rfl
theorem op5 : Opn Tryz.prog 5 (SInt .u8) := Opn.int Tryz.underlying5
theorem op22 : Opn Tryz.prog 22 (SSlc 1 false (SInt .u8)) := Opn.slice (wd := 1) false Tryz.underlying22 (by kernel_rfl) (by decide) (fun h => by first | rfl | cases h) op5
theorem op4 : Opn Tryz.prog 4 SBool := Opn.bool Tryz.underlying4
def F61 : List (Nat × Nat × (List AV → Prop)) := [(4, 1, SBool), (4, 1, SBool), (5, 1, (SInt .u8)), (5, 1, (SInt .u8)), (22, 1, (SSlc 1 false (SInt .u8))), (22, 1, (SSlc 1 false (SInt .u8)))]
theorem op61 : Opn Tryz.prog 61 (SF F61) := Opn.struct F61 Tryz.underlying61 ⟨rfl, rfl, by kernel_rfl, rfl, rfl, by kernel_rfl, rfl, rfl, by kernel_rfl, rfl, rfl, by kernel_rfl, rfl, rfl, by kernel_rfl, rfl, rfl, by kernel_rfl, trivial⟩ (by kernel_rfl) ⟨op4, op4, op5, op5, op22, op22, trivial⟩
theorem op62 : Opn Tryz.prog 62 (SInt .u32) := Opn.int Tryz.underlying62
theorem op23 : Opn Tryz.prog 23 (SInt .u16) := Opn.int Tryz.underlying23
def al : List (Nat × Bool × (List AV → Prop)) := [(22, false, (SSlc 1 false (SInt .u8))), (61, true, (SF F61)), (22, false, (SSlc 1 false (SInt .u8))), (62, false, (SInt .u32)), (5, false, (SInt .u8)), (4, false, SBool), (23, false, (SInt .u16))]
theorem opA : OpA Tryz.prog al := ⟨op22, by kernel_rfl, by kernel_rfl, of_decide_eq_true (by kernel_rfl), op61, by kernel_rfl, by kernel_rfl, of_decide_eq_true (by kernel_rfl), op22, by kernel_rfl, by kernel_rfl, of_decide_eq_true (by kernel_rfl), op62, by kernel_rfl, by kernel_rfl, of_decide_eq_true (by kernel_rfl), op5, by kernel_rfl, by kernel_rfl, of_decide_eq_true (by kernel_rfl), op4, by kernel_rfl, by kernel_rfl, of_decide_eq_true (by kernel_rfl), op23, by kernel_rfl, by kernel_rfl, of_decide_eq_true (by kernel_rfl), trivial⟩

set_option maxRecDepth 100000 in
theorem contract (xs : List AV) (h : SA al xs) : PC Tryz.prog 4 xs (.raw (.bool true)) := by
  obtain ⟨_, _, rfl, h0, _, _, rfl, ⟨_, _, rfl, ⟨v1, rfl⟩, _, _, rfl, ⟨v2, rfl⟩, _, _, rfl, ⟨v3, rfl, w3⟩, _, _, rfl, ⟨v4, rfl, w4⟩, _, _, rfl, h5, _, _, rfl, h6, rfl⟩, _, _, rfl, h7, _, _, rfl, ⟨v8, h8, w8⟩, _, _, rfl, ⟨v9, h9, w9⟩, _, _, rfl, ⟨v10, h10⟩, _, _, rfl, ⟨v11, h11, w11⟩, rfl⟩ := h
  obtain ⟨v0, rfl, w0⟩ := h0.bytes
  obtain ⟨v5, rfl, w5⟩ := SSlc.bytes1 h5
  obtain ⟨v6, rfl, w6⟩ := SSlc.bytes1 h6
  obtain ⟨v7, rfl, w7⟩ := h7.bytes
  cases h8
  cases h9
  cases h10
  cases h11
  exact AppDecodes_pc v0 v1 v2 v3 v4 v5 v6 v7 v8 v9 v10 v11 (bounds_u8 w3) (bounds_u8 w4) (bounds_u32 w8) (bounds_u8 w9) (bounds_u16 w11)
set_option maxRecDepth 100000 in
theorem lifted (os : Os) (started : os.Started) (H : Type) (enc : TypeId × Value → H) :
    ReturnsInHanded {} Tryz.checked os 4 .any (Rows.appDecodesSpec.pre6 enc Tryz.prog Tryz.f4 Rows.appDecodesRow.domain false) (Rows.appDecodesSpec.post enc Tryz.prog Tryz.f4 false true false false) := by
  refine returnsInHanded_of_change (C := Tryz.checked) ownK started (by kernel_rfl) Tryz.func4
    (ChangeSpec.witness6 (enc := enc) (C := Tryz.checked) false ⟨#[], #[.slice none 0 0, .agg #[.bool false, .bool false, .int .u8 0, .int .u8 0, .slice none 0 0, .slice none 0 0], .slice none 0 0, .int .u32 0, .int .u8 0, .bool false, .int .u16 0], []⟩ 8 (by kernel_rfl) (by kernel_rfl) (by kernel_rfl) (by kernel_rfl)) ?_
  intro W base args ds gs before hval hW _ _
  refine law_calls al Tryz.func4 (by kernel_rfl) (by kernel_rfl) (by kernel_rfl) (by kernel_rfl) Tryz.underlying4 rfl ?_ laidOut opA contract W base args ds gs before hval hW
  intro ds hl
  match ds, hl with
  | [_, _, _, _, _, _, _], _ => rfl

theorem over : Rows.appDecodesRow.holds Tryz.pinned (OpenSpec.ofChange Rows.appDecodesSpec) :=
  OpenClaim.holds_of_wide 4 Tryz.f4 rfl rfl rfl rfl rfl rfl rfl ⟨rfl, rfl, rfl, rfl, rfl⟩ rfl rfl rfl rfl rfl (by kernel_rfl) Tryz.func4 (by kernel_rfl)
    (of_decide_eq_true (by kernel_rfl)) (by unfold Func.isWrapper; first | (rw [if_pos (by decide +kernel)]; kernel_rfl) | (rw [if_neg (by decide +kernel)]; exact ⟨rfl, rfl⟩))
    (fun os started H enc _ => lifted os started H enc)

theorem proved : Rows.AppDecodesSaid := over
#print axioms proved
end Go.Proofs.YtghnigbihllnmaaGreat.AppDecodesP
