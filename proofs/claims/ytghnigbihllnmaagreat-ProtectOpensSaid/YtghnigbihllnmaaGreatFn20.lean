/- Bytes that are spoilt. -/
import Derived.Test.YtghnigbihllnmaaGreatHlC
import Derived.Test.YtghnigbihllnmaaGreatSp1
import Derived.Test.YtghnigbihllnmaaGreatTy
import Derived.Test.YtghnigbihllnmaaGreatFn1
set_option linter.unusedVariables false
set_option linter.unusedSimpArgs false
namespace Go.Proofs.YtghnigbihllnmaaGreat.Fn
open Go Hl Sp Ty
set_option maxRecDepth 100000

def BytesS (n : Nat) (d : AV) : Prop := ∃ x : List UInt8, d = .lst 1 (x.map byteA) ∧ x.length ≤ n
theorem rowW (own : Own) (k c cap n : Nat) (bs tl : List UInt8) (hk : own k = some ⟨5, (bs ++ tl).map byteA, 0, cap⟩) (hn : n = bs.length) (hc : n ≤ c) (hm : n ≤ 9223372036854775807) :
    Weak1 own (.raw (.slice (some ⟨k, 0, none⟩) n c)) (own.del k) (.lst 1 (bs.map byteA)) := by
  refine Weak1.row hk ⟨elemOk_bytes bs, by simp, ?_⟩ (by simpa using hn) hc hm
  rw [flat_byte, List.drop_zero, Nat.mul_one, List.map_append, List.length_map, List.take_append_of_le_length (by simp), List.take_of_length_le (by simp)]
theorem tmod4 {n : Int} (h : 0 ≤ n) : n.tmod 4 = 0 ∨ n.tmod 4 = 1 ∨ n.tmod 4 = 2 ∨ n.tmod 4 = 3 := by
  rw [Int.tmod_eq_emod_of_nonneg h]; omega
set_option maxHeartbeats 4000000 in
theorem Spoil_pn (b : List UInt8) (how : Int) (hb : b.length ≤ 100000) (h0 : 0 ≤ how) (h1 : how ≤ 65535) : PN Tryz.prog 15 [.lst 1 (b.map byteA), .raw (.int .u16 how)] (BytesS (b.length + 1)) := by
  refine PN.post ?_
  refine AC.of_body (M := [7]) Tryz.func15 rfl (by kernel_rfl) (Nat.le_of_ble_eq_true rfl) ?_; simp only [Tryz.results15, Tryz.ntmps15]
  simp (dsimp := false) only [go_sem, ↓reduceIte, Nat.reduceEqDiff, Nat.reduceLT, Nat.reduceAdd, Nat.reduceSub, Nat.reduceMul, Nat.reduceLeDiff, reduceCtorEq, Int.reduceNeg, Int.reduceToNat, Int.reduceLT, Int.reduceLE, Int.reduceGE, Int.reduceGT, Int.reduceEq]
  intro k hk
  have hokb := okA_bytes b
  have hmv := fun k' o o' => Own.set_move hk k' o o'
  refine ⟨hokb, by omega, by omega, fun k' c' hk' hc' => ?_⟩
  by_cases hz : (b.length : Int) = 0
  · simp (dsimp := false) only [go_sem, ↓reduceIte, Nat.reduceEqDiff, Nat.reduceLT, Nat.reduceAdd, Nat.reduceSub, Nat.reduceMul, Nat.reduceLeDiff, reduceCtorEq, Int.reduceNeg, Int.reduceToNat, Int.reduceLT, Int.reduceLE, Int.reduceGE, Int.reduceGT, Int.reduceEq, hz, hmv, flat_byte]
    exact ⟨_, _, rowW _ k' c' _ _ b [] (by rw [List.append_nil]; exact Own.set_same _ _ _) rfl (by omega) (by omega), b, rfl, by omega⟩
  obtain ⟨at_, hat⟩ : ∃ a : Nat, (how.tdiv 8).tmod (b.length : Int) = a := ⟨((how.tdiv 8).tmod (b.length : Int)).toNat, by
    rw [Int.toNat_of_nonneg]
    rw [Int.tdiv_eq_ediv_of_nonneg h0, Int.tmod_eq_emod_of_nonneg (by omega)]
    exact Int.emod_nonneg _ hz⟩
  have hlt : at_ < b.length := by
    have : (how.tdiv 8).tmod (b.length : Int) < b.length := by
      rw [Int.tdiv_eq_ediv_of_nonneg h0, Int.tmod_eq_emod_of_nonneg (by omega)]
      exact Int.emod_lt_of_pos _ (by omega)
    omega
  have w1 : IntKind.u16.wrap (how.tdiv 8) = how.tdiv 8 := by
    rw [Int.tdiv_eq_ediv_of_nonneg h0]
    unfold IntKind.wrap
    simp [IntKind.bits, IntKind.signed]
    omega
  have w2 : IntKind.i64.wrap (how.tdiv 8) = how.tdiv 8 := by
    rw [Int.tdiv_eq_ediv_of_nonneg h0]
    exact wrap_i64 (by omega) (by omega)
  have w3 : IntKind.i64.wrap ((at_ : Int) + 1) = ((at_ + 1 : Nat) : Int) := by rw [wrap_i64 (by omega) (by omega)]; omega
  have hgd := getD_byte (l := b) hlt
  have hg : (b.map byteA).getD at_ .any = .raw (.int .u8 ((b.getD at_ 0).toNat)) := by rw [hgd]; rfl
  have w7 : IntKind.u64.wrap (how.tmod 7) = how.tmod 7 := by rw [Int.tmod_eq_emod_of_nonneg h0]; exact wrap_u64 (by omega) (by omega)
  have p7 : 0 ≤ how.tmod 7 := by rw [Int.tmod_eq_emod_of_nonneg h0]; omega
  have hbb : ∀ x, AV.raw (.int .u8 ((u8 x).toNat : Int)) = byteA (u8 x) := fun _ => rfl
  rcases tmod4 h0 with h4 | h4 | h4 | h4
  · simp (dsimp := false) only [go_sem, ↓reduceIte, Nat.reduceEqDiff, Nat.reduceLT, Nat.reduceAdd, Nat.reduceSub, Nat.reduceMul, Nat.reduceLeDiff, reduceCtorEq, Int.reduceNeg, Int.reduceToNat, Int.reduceLT, Int.reduceLE, Int.reduceGE, Int.reduceGT, Int.reduceEq, hz, hmv, flat_byte, h4, w1, w2, hat, hg, w7, wrap_u8]
    simp only [hbb, set_byte]
    refine ⟨by omega, by omega, p7, by omega, by omega, ?_⟩
    refine ⟨_, _, rowW _ k' c' c' _ _ [] (by rw [List.append_nil]; exact Own.set_same _ _ _) (by simp) (by omega) (by omega), _, rfl, by simp⟩
  · simp (dsimp := false) only [go_sem, ↓reduceIte, Nat.reduceEqDiff, Nat.reduceLT, Nat.reduceAdd, Nat.reduceSub, Nat.reduceMul, Nat.reduceLeDiff, reduceCtorEq, Int.reduceNeg, Int.reduceToNat, Int.reduceLT, Int.reduceLE, Int.reduceGE, Int.reduceGT, Int.reduceEq, hz, hmv, flat_byte, h4, w1, w2, hat]
    refine AW.draw (M := []) [.v, .v, .v, .v, .v, .v, .v, .e, .v] mixed (by kernel_rfl) ?_
    have q0 : ¬ ((c' : Int) = 0) := by omega
    by_cases q1 : (c' : Int) = ((at_ + 1 : Nat) : Int)
    · have q2 : b.length - (at_ + 1) = 0 := by omega
      have q3 : ¬ (((at_ + 1 : Nat) : Int) = 0) := by omega
      simp (dsimp := false) only [go_sem, ↓reduceIte, Nat.reduceEqDiff, Nat.reduceLT, Nat.reduceAdd, Nat.reduceSub, Nat.reduceMul, Nat.reduceLeDiff, reduceCtorEq, Int.reduceNeg, Int.reduceToNat, Int.reduceLT, Int.reduceLE, Int.reduceGE, Int.reduceGT, Int.reduceEq, w3, flat_byte, q0, q1, q2, q3]
      refine ⟨by omega, by omega, by omega, by omega, ?_⟩
      have e1 : (b.map byteA).take at_ ++ (b.map byteA).drop at_ = (b.take at_ ++ b.drop at_).map byteA := by simp
      refine ⟨_, _, rowW _ k' c' c' _ (b.take at_) (b.drop at_) (Own.set_same _ _ _ |>.trans (by simp)) (by simp; omega) (by omega) (by omega), _, rfl, by simp; omega⟩
    · simp (dsimp := false) only [go_sem, ↓reduceIte, Nat.reduceEqDiff, Nat.reduceLT, Nat.reduceAdd, Nat.reduceSub, Nat.reduceMul, Nat.reduceLeDiff, reduceCtorEq, Int.reduceNeg, Int.reduceToNat, Int.reduceLT, Int.reduceLE, Int.reduceGE, Int.reduceGT, Int.reduceEq, w3, flat_byte, q0, q1, take_drop_self]
      refine ⟨by omega, by omega, by omega, by omega, by omega, ?_⟩
      refine ⟨_, _, rowW _ k' c' c' _ (b.take at_ ++ b.drop (at_ + 1)) (b.drop (at_ + (b.length - (at_ + 1)))) (by rw [List.map_append, List.map_append]; exact Own.set_same _ _ _) (by simp; omega) (by omega) (by omega), _, rfl, by simp; omega⟩
  · simp (dsimp := false) only [go_sem, ↓reduceIte, Nat.reduceEqDiff, Nat.reduceLT, Nat.reduceAdd, Nat.reduceSub, Nat.reduceMul, Nat.reduceLeDiff, reduceCtorEq, Int.reduceNeg, Int.reduceToNat, Int.reduceLT, Int.reduceLE, Int.reduceGE, Int.reduceGT, Int.reduceEq, hz, hmv, flat_byte, h4, w1, w2, hat, wrap_u8, hbb]
    refine ⟨by omega, by omega, fun k2 c2 hk2 hc2 => ?_⟩
    have hk' : noOwn k' = none := rfl
    have hmv2 := fun o o' => Own.set_move hk' k2 o o'
    rw [hmv2]
    refine ⟨_, _, rowW _ k2 c2 _ _ (b ++ [u8 how]) [] (by rw [List.append_nil, List.map_append]; exact Own.set_same _ _ _) (by simp) hc2 (by omega), _, rfl, by simp⟩
  · simp (dsimp := false) only [go_sem, ↓reduceIte, Nat.reduceEqDiff, Nat.reduceLT, Nat.reduceAdd, Nat.reduceSub, Nat.reduceMul, Nat.reduceLeDiff, reduceCtorEq, Int.reduceNeg, Int.reduceToNat, Int.reduceLT, Int.reduceLE, Int.reduceGE, Int.reduceGT, Int.reduceEq, hz, hmv, flat_byte, h4, w1, w2, hat]
    exact ⟨_, _, rowW _ k' c' _ _ b [] (by rw [List.append_nil]; exact Own.set_same _ _ _) rfl (by omega) (by omega), b, rfl, by omega⟩
end Go.Proofs.YtghnigbihllnmaaGreat.Fn
