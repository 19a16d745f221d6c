/- The reference's reader of principals. -/
import Derived.Test.YtenfgknhongaaaaFn9
set_option linter.unusedVariables false
set_option linter.unusedSimpArgs false
namespace Go.Proofs.Ytenfgknhongaaaa.Fn
open Go Hl Sp Ty

theorem move_at {own : Own} {k k' j : Nat} {o : OB} (h : j ≠ k') (h' : j ≠ k) : own.move k k' o j = own j := by
  simp only [Own.move]; rw [if_neg h, if_neg h']
set_option maxRecDepth 100000 in
set_option maxHeartbeats 4000000 in
theorem rPrincipal_pure (b : List UInt8) (at_ : Int) (hn : b.length ≤ 140737488355000) : PC Try.prog 40 [.lst 1 (b.map byteA), .raw (.int .i64 at_)] (.tup [prinA (prinR b at_).1, .raw (.int .i64 (prinR b at_).2.1), .raw (.int .i64 (prinR b at_).2.2)]) := by
  refine PC.of_ac ?_
  refine AC.of_body (M := []) Try.func40 rfl (by kernel_rfl) (Nat.le_of_ble_eq_true rfl) ?_; simp only [Try.results40, Try.ntmps40]
  simp (dsimp := false) only [go_sem, ↓reduceIte, Nat.reduceEqDiff, Nat.reduceLT, Nat.reduceAdd, Nat.reduceSub, Nat.reduceMul, Nat.reduceLeDiff, reduceCtorEq, Int.reduceNeg, Int.reduceToNat, Int.reduceLT, Int.reduceLE, Int.reduceEq]
  intro k _
  refine AW.rounds (M := []) 4 ?_
  have w1 : IntKind.i64.wrap (0 + 1) = 1 := by decide
  have w2 : IntKind.i64.wrap (1 + 1) = 2 := by decide
  have w3 : IntKind.i64.wrap (2 + 1) = 3 := by decide
  have c3 : ((3 : Nat) : Int) = 3 := rfl
  simp (dsimp := false) only [go_sem, ↓reduceIte, Nat.reduceEqDiff, Nat.reduceLT, Nat.reduceAdd, Nat.reduceSub, Nat.reduceMul, Nat.reduceLeDiff, reduceCtorEq, Int.reduceNeg, Int.reduceToNat, Int.reduceLT, Int.reduceLE, Int.reduceEq]
  refine ACs.pure (rText_pure b at_ hn) ?_
  obtain ⟨x, hx⟩ : ∃ x, textR b at_ = x := ⟨_, rfl⟩
  by_cases h1 : x.2.2 = 0
  · simp (dsimp := false) only [go_sem, ↓reduceIte, Nat.reduceEqDiff, Nat.reduceLT, Nat.reduceAdd, Nat.reduceSub, Nat.reduceMul, Nat.reduceLeDiff, reduceCtorEq, Int.reduceNeg, Int.reduceToNat, Int.reduceLT, Int.reduceLE, Int.reduceEq, hx, h1, w1, w2, w3, c3]
    intro k1 c1 hk1 hc1
    have n1 := none_ne hk1
    have hA : ∀ (own : Own) o, (own.set k1 o) k = own k := fun own o => Own.set_ne _ _ (Ne.symm n1)
    have hB : ∀ (own : Own) o, (own.set k o) k1 = own k1 := fun own o => Own.set_ne _ _ n1
    (try simp (dsimp := false) only [go_sem, ↓reduceIte, Nat.reduceEqDiff, Nat.reduceLT, Nat.reduceAdd, Nat.reduceSub, Nat.reduceMul, Nat.reduceLeDiff, reduceCtorEq, Int.reduceNeg, Int.reduceToNat, Int.reduceLT, Int.reduceLE, Int.reduceEq])
    refine ACs.pure (rText_pure b x.2.1 hn) ?_
    obtain ⟨y, hy⟩ : ∃ y, textR b x.2.1 = y := ⟨_, rfl⟩
    by_cases h2 : y.2.2 = 0
    · simp (dsimp := false) only [go_sem, ↓reduceIte, Nat.reduceEqDiff, Nat.reduceLT, Nat.reduceAdd, Nat.reduceSub, Nat.reduceMul, Nat.reduceLeDiff, reduceCtorEq, Int.reduceNeg, Int.reduceToNat, Int.reduceLT, Int.reduceLE, Int.reduceEq, hy, h2, w1, w2, w3, c3, hA, hB]
      intro k2 c2 hk2 hc2
      have hk2 := Own.set_none hk1 hk2
      have m1 := fun o o' => Own.set_move hk1 k2 o o'
      have n2 := none_ne hk2
      have hA2 : ∀ (own : Own) o, (own.set k2 o) k = own k := fun own o => Own.set_ne _ _ (Ne.symm n2)
      have hB2 : ∀ (own : Own) o, (own.set k o) k2 = own k2 := fun own o => Own.set_ne _ _ n2
      simp (dsimp := false) only [go_sem, ↓reduceIte, Nat.reduceEqDiff, Nat.reduceLT, Nat.reduceAdd, Nat.reduceSub, Nat.reduceMul, Nat.reduceLeDiff, reduceCtorEq, Int.reduceNeg, Int.reduceToNat, Int.reduceLT, Int.reduceLE, Int.reduceEq, m1]
      refine ACs.pure (rText_pure b y.2.1 hn) ?_
      obtain ⟨z, hz⟩ : ∃ z, textR b y.2.1 = z := ⟨_, rfl⟩
      by_cases h3 : z.2.2 = 0
      · simp (dsimp := false) only [go_sem, ↓reduceIte, Nat.reduceEqDiff, Nat.reduceLT, Nat.reduceAdd, Nat.reduceSub, Nat.reduceMul, Nat.reduceLeDiff, reduceCtorEq, Int.reduceNeg, Int.reduceToNat, Int.reduceLT, Int.reduceLE, Int.reduceEq, hz, h3, w1, w2, w3, c3, hA2, hB2]
        intro k3 c3' hk3 hc3
        have hk3 := Own.set_none hk2 hk3
        have m2 := fun o o' => Own.set_move hk2 k3 o o'
        have n3 := none_ne hk3
        have hA3 : ∀ (own : Own) o, (own.set k3 o) k = own k := fun own o => Own.set_ne _ _ (Ne.symm n3)
        have hB3 : ∀ (own : Own) o, (own.set k o) k3 = own k3 := fun own o => Own.set_ne _ _ n3
        have sx : x.1.size ≤ 9223372036854775807 := by rw [← hx]; exact textR_size b at_ hn
        have sy : y.1.size ≤ 9223372036854775807 := by rw [← hy]; exact textR_size b _ hn
        have sz : z.1.size ≤ 9223372036854775807 := by rw [← hz]; exact textR_size b _ hn
        simp (dsimp := false) only [go_sem, ↓reduceIte, Nat.reduceEqDiff, Nat.reduceLT, Nat.reduceAdd, Nat.reduceSub, Nat.reduceMul, Nat.reduceLeDiff, reduceCtorEq, Int.reduceNeg, Int.reduceToNat, Int.reduceLT, Int.reduceLE, Int.reduceEq, m2, w1, w2, w3, c3, hA3, hB3]
        refine AW.ghost (Ghost.slot (t := 7) (Weak1.row (k := k3) (n := 3) (c := c3') (off := 0) (wd := 1) (l := [.raw (.string x.1), .raw (.string y.1), .raw (.string z.1)]) (Own.set_same _ _ _) ⟨by simp [elemOk], by simp, by simp [cellsA]⟩ rfl hc3 (by decide))) ?_
        refine AW.draw (M := []) [.v, .v, .v, .v, .v, .v, .v, .v, .v, .v, .e, .e] mixed (by kernel_rfl) ?_
        have hdel := fun o => Own.set_del hk3 o
        simp (dsimp := false) only [go_sem, ↓reduceIte, Nat.reduceEqDiff, Nat.reduceLT, Nat.reduceAdd, Nat.reduceSub, Nat.reduceMul, Nat.reduceLeDiff, reduceCtorEq, Int.reduceNeg, Int.reduceToNat, Int.reduceLT, Int.reduceLE, Int.reduceEq, hdel]
        intro k4 hk4
        have n40 := none_ne hk4
        have hC : ∀ (own : Own) o, (own.set k4 o) k = own k := fun own o => Own.set_ne _ _ (Ne.symm n40)
        have hE : ∀ (own : Own) o, (own.set k o) k4 = own k4 := fun own o => Own.set_ne _ _ n40
        refine ACs.pure (rValid_pure x.1 y.1 z.1 sx sy sz) ?_
        rcases Bool.eq_false_or_eq_true (validB x.1 y.1 z.1) with hv | hv
        · simp (dsimp := false) only [go_sem, ↓reduceIte, Nat.reduceEqDiff, Nat.reduceLT, Nat.reduceAdd, Nat.reduceSub, Nat.reduceMul, Nat.reduceLeDiff, reduceCtorEq, Int.reduceNeg, Int.reduceToNat, Int.reduceLT, Int.reduceLE, Int.reduceEq, hA3, hB3, hC, hE, hv]
          simp [prinR, prinA, hx, hy, hz, h1, h2, h3, hv]
        · simp (dsimp := false) only [go_sem, ↓reduceIte, Nat.reduceEqDiff, Nat.reduceLT, Nat.reduceAdd, Nat.reduceSub, Nat.reduceMul, Nat.reduceLeDiff, reduceCtorEq, Int.reduceNeg, Int.reduceToNat, Int.reduceLT, Int.reduceLE, Int.reduceEq, hA3, hB3, hC, hE, hv]
          simp [prinR, prinA, hx, hy, hz, h1, h2, h3, hv]
      · simp (dsimp := false) only [go_sem, ↓reduceIte, Nat.reduceEqDiff, Nat.reduceLT, Nat.reduceAdd, Nat.reduceSub, Nat.reduceMul, Nat.reduceLeDiff, reduceCtorEq, Int.reduceNeg, Int.reduceToNat, Int.reduceLT, Int.reduceLE, Int.reduceEq, hz, h3, w1, w2, w3, c3, hA2, hB2]
        simp [prinR, prinA, hx, hy, hz, h1, h2, h3]
    · simp (dsimp := false) only [go_sem, ↓reduceIte, Nat.reduceEqDiff, Nat.reduceLT, Nat.reduceAdd, Nat.reduceSub, Nat.reduceMul, Nat.reduceLeDiff, reduceCtorEq, Int.reduceNeg, Int.reduceToNat, Int.reduceLT, Int.reduceLE, Int.reduceEq, hy, h2, w1, w2, w3, c3, hA, hB]
      simp [prinR, prinA, hx, hy, h1, h2]
  · simp (dsimp := false) only [go_sem, ↓reduceIte, Nat.reduceEqDiff, Nat.reduceLT, Nat.reduceAdd, Nat.reduceSub, Nat.reduceMul, Nat.reduceLeDiff, reduceCtorEq, Int.reduceNeg, Int.reduceToNat, Int.reduceLT, Int.reduceLE, Int.reduceEq, hx, h1, w1, w2, w3, c3]
    simp [prinR, prinA, hx, h1]
end Go.Proofs.Ytenfgknhongaaaa.Fn
