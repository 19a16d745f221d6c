/- Headers, as the reference reads them. -/
import Derived.Test.YtghnigbihllnmaaGreatFn36
set_option linter.unusedVariables false
set_option linter.unusedSimpArgs false
namespace Go.Proofs.YtghnigbihllnmaaGreat.Fn
open Go Hl Sp Ty
set_option maxRecDepth 100000
theorem rhdRead_pure (b : List UInt8) (hn : b.length ≤ 140737488355000) : PC Tryz.prog 103 [.lst 1 (b.map byteA)] (.tup [.raw (.int .i64 (hdR b).1), .raw (.bool (hdR b).2.1), .raw (.int .i64 (hdR b).2.2)]) := by
  refine PC.of_ac ?_
  unfold hdR
  refine AC.of_body (M := []) Tryz.func103 rfl (by kernel_rfl) (Nat.le_of_ble_eq_true rfl) ?_; simp only [Tryz.results103, Tryz.ntmps103]
  by_cases h0 : (b.length : Int) < 2
  · rw [if_pos h0]
    simp (dsimp := false) only [go_sem, ↓reduceIte, Nat.reduceEqDiff, Nat.reduceLT, Nat.reduceAdd, Nat.reduceSub, Nat.reduceMul, Nat.reduceLeDiff, reduceCtorEq, Int.reduceNeg, Int.reduceToNat, Int.reduceLT, Int.reduceLE, Int.reduceGE, Int.reduceGT, Int.reduceEq, h0]
  rw [if_neg h0]
  obtain ⟨c0, e0⟩ : ∃ c, b.getD 0 0 = c := ⟨_, rfl⟩
  obtain ⟨c1, e1⟩ : ∃ c, b.getD 1 0 = c := ⟨_, rfl⟩
  have g0 : (b.map byteA).getD 0 .any = .raw (.int .u8 (c0.toNat)) := by rw [getD_byte (by omega), e0]; rfl
  have g1 : (b.map byteA).getD 1 .any = .raw (.int .u8 (c1.toNat)) := by rw [getD_byte (by omega), e1]; rfl
  rw [e0, e1]
  have l0 : 0 < (b.length : Int) := by omega
  have l1 : 1 < (b.length : Int) := by omega
  by_cases h1 : (c0.toNat : Int) = 4
  · rw [if_neg (by omega)]
    have hr : 0 ≤ (c1.toNat : Int) ∧ (c1.toNat : Int) ≤ 255 := ⟨by omega, by have := c1.toNat_lt; omega⟩
    have d0 : (c1.toNat : Int).tdiv 2 = (c1.toNat : Int) / 2 := Int.tdiv_eq_ediv_of_nonneg hr.1
    obtain ⟨q, hq⟩ : ∃ q, (c1.toNat : Int).tdiv 2 = q := ⟨_, rfl⟩
    have w1 : IntKind.u8.wrap q = q := wrap_u8_id (by omega) (by omega)
    have w2 : IntKind.i64.wrap q = q := wrap_i64 (by omega) (by omega)
    rw [hq]
    by_cases p1 : q < 1
    · have hb : kindB q = false := by unfold kindB; simp; omega
      rw [hb, if_pos rfl]
      simp (dsimp := false) only [go_sem, ↓reduceIte, Nat.reduceEqDiff, Nat.reduceLT, Nat.reduceAdd, Nat.reduceSub, Nat.reduceMul, Nat.reduceLeDiff, reduceCtorEq, Int.reduceNeg, Int.reduceToNat, Int.reduceLT, Int.reduceLE, Int.reduceGE, Int.reduceGT, Int.reduceEq, h0, h1, g0, g1, hq, w1, w2, l0, l1, p1]
    by_cases p2 : q > 10
    · have hb : kindB q = false := by unfold kindB; simp; omega
      rw [hb, if_pos rfl]
      simp (dsimp := false) only [go_sem, ↓reduceIte, Nat.reduceEqDiff, Nat.reduceLT, Nat.reduceAdd, Nat.reduceSub, Nat.reduceMul, Nat.reduceLeDiff, reduceCtorEq, Int.reduceNeg, Int.reduceToNat, Int.reduceLT, Int.reduceLE, Int.reduceGE, Int.reduceGT, Int.reduceEq, h0, h1, g0, g1, hq, w1, w2, l0, l1, p1, p2]
    have hb : kindB q = true := by unfold kindB; simp; omega
    rw [hb, if_neg (by decide)]
    simp (dsimp := false) only [go_sem, ↓reduceIte, Nat.reduceEqDiff, Nat.reduceLT, Nat.reduceAdd, Nat.reduceSub, Nat.reduceMul, Nat.reduceLeDiff, reduceCtorEq, Int.reduceNeg, Int.reduceToNat, Int.reduceLT, Int.reduceLE, Int.reduceGE, Int.reduceGT, Int.reduceEq, h0, h1, g0, g1, hq, w1, w2, l0, l1, p1, p2]
    (try refine AW.draw (M := []) [.v, .v, .v, .v, .v, .v, .v, .v, .v] mixed (by kernel_rfl) ?_)
    (try simp (dsimp := false) only [go_sem, ↓reduceIte, Nat.reduceEqDiff, Nat.reduceLT, Nat.reduceAdd, Nat.reduceSub, Nat.reduceMul, Nat.reduceLeDiff, reduceCtorEq, Int.reduceNeg, Int.reduceToNat, Int.reduceLT, Int.reduceLE, Int.reduceGE, Int.reduceGT, Int.reduceEq, h0, h1, g0, g1, hq, w1, w2, l0, l1])
  · rw [if_pos h1]
    simp (dsimp := false) only [go_sem, ↓reduceIte, Nat.reduceEqDiff, Nat.reduceLT, Nat.reduceAdd, Nat.reduceSub, Nat.reduceMul, Nat.reduceLeDiff, reduceCtorEq, Int.reduceNeg, Int.reduceToNat, Int.reduceLT, Int.reduceLE, Int.reduceGE, Int.reduceGT, Int.reduceEq, h0, h1, g0, l0]
theorem rhdIs_pure (b : List UInt8) (ks : List Int) (hn : b.length ≤ 140737488355000) (hl : ks.length ≤ 1000) : PC Tryz.prog 77 [.lst 1 (b.map byteA), .lst 1 (ks.map iA)] (.tup [.raw (.bool (hdIs b ks).1), .raw (.int .i64 (hdIs b ks).2)]) := by
  refine PC.of_ac ?_
  have hR := rhdRead_pure b hn
  unfold hdIs
  obtain ⟨⟨q, lt, e⟩, hq⟩ : ∃ q, hdR b = q := ⟨_, rfl⟩
  rw [hq] at hR ⊢
  simp only at hR ⊢
  have hL : (ks.map iA).length = ks.length := List.length_map ..
  refine AC.of_body (M := []) Tryz.func77 rfl (by kernel_rfl) (Nat.le_of_ble_eq_true rfl) ?_; simp only [Tryz.results77, Tryz.ntmps77]
  simp (dsimp := false) only [go_sem, ↓reduceIte, Nat.reduceEqDiff, Nat.reduceLT, Nat.reduceAdd, Nat.reduceSub, Nat.reduceMul, Nat.reduceLeDiff, reduceCtorEq, Int.reduceNeg, Int.reduceToNat, Int.reduceLT, Int.reduceLE, Int.reduceGE, Int.reduceGT, Int.reduceEq]
  refine ACs.pure hR ?_
  by_cases he : e = 0
  rotate_left
  · rw [if_pos he]
    simp (dsimp := false) only [go_sem, ↓reduceIte, Nat.reduceEqDiff, Nat.reduceLT, Nat.reduceAdd, Nat.reduceSub, Nat.reduceMul, Nat.reduceLeDiff, reduceCtorEq, Int.reduceNeg, Int.reduceToNat, Int.reduceLT, Int.reduceLE, Int.reduceGE, Int.reduceGT, Int.reduceEq, he]
  rw [if_neg (fun h => h he)]
  simp (dsimp := false) only [go_sem, ↓reduceIte, Nat.reduceEqDiff, Nat.reduceLT, Nat.reduceAdd, Nat.reduceSub, Nat.reduceMul, Nat.reduceLeDiff, reduceCtorEq, Int.reduceNeg, Int.reduceToNat, Int.reduceLT, Int.reduceLE, Int.reduceGE, Int.reduceGT, Int.reduceEq, he]
  refine AW.loopJ (M := []) (X := Nat) (fun i => ⟨32, tmL [(1, .lst 1 (ks.map iA)), (6, .raw (.int .i64 q)), (7, .raw (.bool lt)), (9, .raw (.int .i64 i))], noOwn⟩)
    (fun i => i ≤ ks.length ∧ ∀ j < i, ks.getD j 0 ≠ q) (fun i => ks.length - i) 0 ⟨Nat.zero_le _, fun j h => absurd h (by omega)⟩ ?_ ?_
  · (refine Ghost.of ?_ (fun _ _ h => by cases h); (repeat' (first | exact all_nil | refine all_cons ?_ ?_)) <;> (first | (simp (dsimp := false) only [go_sem, ↓reduceIte, Nat.reduceEqDiff, Nat.reduceLT, Nat.reduceAdd, Nat.reduceSub, Nat.reduceMul, Nat.reduceLeDiff, reduceCtorEq, Int.reduceNeg, Int.reduceToNat, Int.reduceLT, Int.reduceLE, Int.reduceGE, Int.reduceGT, Int.reduceEq]; done) | (simp (dsimp := false) only [go_sem, ↓reduceIte, Nat.reduceEqDiff, Nat.reduceLT, Nat.reduceAdd, Nat.reduceSub, Nat.reduceMul, Nat.reduceLeDiff, reduceCtorEq, Int.reduceNeg, Int.reduceToNat, Int.reduceLT, Int.reduceLE, Int.reduceGE, Int.reduceGT, Int.reduceEq]; rfl)))
  rintro i ⟨hi, hne⟩
  by_cases hlt : (i : Int) < (ks.map iA).length
  · have e1 : IntKind.i64.wrap ((i : Int) + 1) = ((i + 1 : Nat) : Int) := by rw [wrap_i64 (by omega) (by omega)]; omega
    have g : (ks.map iA).getD i .any = .raw (.int .i64 (ks.getD i 0)) := getD_int (by omega)
    have hmem : ks.getD i 0 ∈ ks := by
      rw [List.getD_eq_getElem?_getD, List.getElem?_eq_getElem (by omega)]
      exact List.getElem_mem _
    obtain ⟨y, hy⟩ : ∃ y, ks.getD i 0 = y := ⟨_, rfl⟩
    rw [hy] at g hmem
    by_cases hx : y = q
    · rw [if_pos (hx ▸ hmem)]
      simp (dsimp := false) only [go_sem, ↓reduceIte, Nat.reduceEqDiff, Nat.reduceLT, Nat.reduceAdd, Nat.reduceSub, Nat.reduceMul, Nat.reduceLeDiff, reduceCtorEq, Int.reduceNeg, Int.reduceToNat, Int.reduceLT, Int.reduceLE, Int.reduceGE, Int.reduceGT, Int.reduceEq, hlt, g, hx]
      (try omega)
    · simp (dsimp := false) only [go_sem, ↓reduceIte, Nat.reduceEqDiff, Nat.reduceLT, Nat.reduceAdd, Nat.reduceSub, Nat.reduceMul, Nat.reduceLeDiff, reduceCtorEq, Int.reduceNeg, Int.reduceToNat, Int.reduceLT, Int.reduceLE, Int.reduceGE, Int.reduceGT, Int.reduceEq, hlt, g, hx, e1]
      (try refine ⟨by omega, ?_⟩)
      refine ⟨i + 1, ⟨by omega, fun j hj => ?_⟩, ?_, by omega⟩
      · by_cases hji : j = i
        · rw [hji, hy]; exact hx
        · exact hne j (by omega)
      · (refine Ghost.of ?_ (fun _ _ h => by cases h); (repeat' (first | exact all_nil | refine all_cons ?_ ?_)) <;> (first | (simp (dsimp := false) only [go_sem, ↓reduceIte, Nat.reduceEqDiff, Nat.reduceLT, Nat.reduceAdd, Nat.reduceSub, Nat.reduceMul, Nat.reduceLeDiff, reduceCtorEq, Int.reduceNeg, Int.reduceToNat, Int.reduceLT, Int.reduceLE, Int.reduceGE, Int.reduceGT, Int.reduceEq]; done) | (simp (dsimp := false) only [go_sem, ↓reduceIte, Nat.reduceEqDiff, Nat.reduceLT, Nat.reduceAdd, Nat.reduceSub, Nat.reduceMul, Nat.reduceLeDiff, reduceCtorEq, Int.reduceNeg, Int.reduceToNat, Int.reduceLT, Int.reduceLE, Int.reduceGE, Int.reduceGT, Int.reduceEq]; rfl)))
  · have hm : ¬ q ∈ ks := fun h => by
      obtain ⟨j, hj, e⟩ := List.mem_iff_getElem.1 h
      refine absurd ?_ (hne j (by omega))
      rw [List.getD_eq_getElem?_getD, List.getElem?_eq_getElem hj]
      exact e
    rw [if_neg hm]
    simp (dsimp := false) only [go_sem, ↓reduceIte, Nat.reduceEqDiff, Nat.reduceLT, Nat.reduceAdd, Nat.reduceSub, Nat.reduceMul, Nat.reduceLeDiff, reduceCtorEq, Int.reduceNeg, Int.reduceToNat, Int.reduceLT, Int.reduceLE, Int.reduceGE, Int.reduceGT, Int.reduceEq, hlt]
end Go.Proofs.YtghnigbihllnmaaGreat.Fn
