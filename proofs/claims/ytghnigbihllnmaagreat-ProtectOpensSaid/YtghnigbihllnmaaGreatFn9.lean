/- The readers of principals. -/
import Derived.Test.YtghnigbihllnmaaGreatHlC
import Derived.Test.YtghnigbihllnmaaGreatSp1
import Derived.Test.YtghnigbihllnmaaGreatTy
import Derived.Test.YtghnigbihllnmaaGreatFn3
import Derived.Test.YtghnigbihllnmaaGreatFn8
set_option linter.unusedVariables false
set_option linter.unusedSimpArgs false
namespace Go.Proofs.YtghnigbihllnmaaGreat.Fn
open Go Hl Sp Ty

/-- What a reader of a principal reads. -/
def prinR (b : List UInt8) (at_ : Int) : (ByteArray × ByteArray × ByteArray) × Int × Int :=
  let x := textR b at_
  if x.2.2 ≠ 0 then ((⟨#[]⟩, ⟨#[]⟩, ⟨#[]⟩), 0, x.2.2) else
  let y := textR b x.2.1
  if y.2.2 ≠ 0 then ((⟨#[]⟩, ⟨#[]⟩, ⟨#[]⟩), 0, y.2.2) else
  let z := textR b y.2.1
  if z.2.2 ≠ 0 then ((⟨#[]⟩, ⟨#[]⟩, ⟨#[]⟩), 0, z.2.2) else
  if validB x.1 y.1 z.1 then ((x.1, y.1, z.1), z.2.1, 0) else ((⟨#[]⟩, ⟨#[]⟩, ⟨#[]⟩), 0, 103)
def prinA (p : ByteArray × ByteArray × ByteArray) : AV := .st [.raw (.string p.1), .raw (.string p.2.1), .raw (.string p.2.2)]

theorem textR_size (b : List UInt8) (at_ : Int) (hn : b.length ≤ 140737488355000) : (textR b at_).1.size ≤ 9223372036854775807 := by
  unfold textR
  split
  · exact Nat.zero_le _
  · simp only
    split
    · simp only [ByteArray.size, List.size_toArray, List.length_take, List.length_drop]
      omega
    · split <;> exact Nat.zero_le _

set_option maxRecDepth 100000 in
set_option maxHeartbeats 4000000 in
theorem Principal_pure (b : List UInt8) (at_ : Int) (hn : b.length ≤ 140737488355000) : PC Tryz.prog 130 [.lst 1 (b.map byteA), .raw (.int .i64 at_)] (.tup [prinA (prinR b at_).1, .raw (.int .i64 (prinR b at_).2.1), .raw (.int .i64 (prinR b at_).2.2)]) := by
  refine PC.of_ac ?_
  refine AC.of_body (M := []) Tryz.func130 rfl (by kernel_rfl) (Nat.le_of_ble_eq_true rfl) ?_; simp only [Tryz.results130, Tryz.ntmps130]
  simp (dsimp := false) only [go_sem, ↓reduceIte, Nat.reduceEqDiff, Nat.reduceLT, Nat.reduceAdd, Nat.reduceSub, Nat.reduceMul, Nat.reduceLeDiff, reduceCtorEq, Int.reduceNeg, Int.reduceToNat, Int.reduceLT, Int.reduceLE, Int.reduceGE, Int.reduceGT, Int.reduceEq]
  intro k _ k1 hk1
  have hne : k1 ≠ k := by intro h; subst h; rw [Own.set_same] at hk1; cases hk1
  have hA : ∀ (own : Own) o, (own.set k1 o) k = own k := fun own o => Own.set_ne _ _ (Ne.symm hne)
  have hB : ∀ (own : Own) o, (own.set k o) k1 = own k1 := fun own o => Own.set_ne _ _ hne
  refine AW.rounds (M := []) 4 ?_
  simp (dsimp := false) only [go_sem, ↓reduceIte, Nat.reduceEqDiff, Nat.reduceLT, Nat.reduceAdd, Nat.reduceSub, Nat.reduceMul, Nat.reduceLeDiff, reduceCtorEq, Int.reduceNeg, Int.reduceToNat, Int.reduceLT, Int.reduceLE, Int.reduceGE, Int.reduceGT, Int.reduceEq, hA, hB]
  refine ACs.pure (Text_pure b at_ hn) ?_
  have w1 : IntKind.i64.wrap (0 + 1) = 1 := by decide
  have w2 : IntKind.i64.wrap (1 + 1) = 2 := by decide
  have w3 : IntKind.i64.wrap (2 + 1) = 3 := by decide
  have c3 : ((3 : Nat) : Int) = 3 := rfl
  obtain ⟨x, hx⟩ : ∃ x, textR b at_ = x := ⟨_, rfl⟩
  by_cases h1 : x.2.2 = 0
  · simp (dsimp := false) only [go_sem, ↓reduceIte, Nat.reduceEqDiff, Nat.reduceLT, Nat.reduceAdd, Nat.reduceSub, Nat.reduceMul, Nat.reduceLeDiff, reduceCtorEq, Int.reduceNeg, Int.reduceToNat, Int.reduceLT, Int.reduceLE, Int.reduceGE, Int.reduceGT, Int.reduceEq, hx, h1, hA, hB, w1, w2, w3, c3]
    refine ACs.pure (Text_pure b x.2.1 hn) ?_
    obtain ⟨y, hy⟩ : ∃ y, textR b x.2.1 = y := ⟨_, rfl⟩
    by_cases h2 : y.2.2 = 0
    · simp (dsimp := false) only [go_sem, ↓reduceIte, Nat.reduceEqDiff, Nat.reduceLT, Nat.reduceAdd, Nat.reduceSub, Nat.reduceMul, Nat.reduceLeDiff, reduceCtorEq, Int.reduceNeg, Int.reduceToNat, Int.reduceLT, Int.reduceLE, Int.reduceGE, Int.reduceGT, Int.reduceEq, hy, h1, h2, hA, hB, w1, w2, w3, c3]
      refine ACs.pure (Text_pure b y.2.1 hn) ?_
      obtain ⟨z, hz⟩ : ∃ z, textR b y.2.1 = z := ⟨_, rfl⟩
      by_cases h3 : z.2.2 = 0
      · simp (dsimp := false) only [go_sem, ↓reduceIte, Nat.reduceEqDiff, Nat.reduceLT, Nat.reduceAdd, Nat.reduceSub, Nat.reduceMul, Nat.reduceLeDiff, reduceCtorEq, Int.reduceNeg, Int.reduceToNat, Int.reduceLT, Int.reduceLE, Int.reduceGE, Int.reduceGT, Int.reduceEq, hz, h1, h2, h3, hA, hB, w1, w2, w3, c3]
        have sx : x.1.size ≤ 9223372036854775807 := by rw [← hx]; exact textR_size b at_ hn
        have sy : y.1.size ≤ 9223372036854775807 := by rw [← hy]; exact textR_size b _ hn
        have sz : z.1.size ≤ 9223372036854775807 := by rw [← hz]; exact textR_size b _ hn
        intro k2 hk2
        have n21 := none_ne hk2
        rw [Own.set_ne _ _ n21] at hk2
        have n20 := none_ne hk2
        have hC : ∀ (own : Own) o, (own.set k2 o) k = own k := fun own o => Own.set_ne _ _ (Ne.symm n20)
        have hD : ∀ (own : Own) o, (own.set k2 o) k1 = own k1 := fun own o => Own.set_ne _ _ (Ne.symm n21)
        have hE : ∀ (own : Own) o, (own.set k o) k2 = own k2 := fun own o => Own.set_ne _ _ n20
        have hF : ∀ (own : Own) o, (own.set k1 o) k2 = own k2 := fun own o => Own.set_ne _ _ n21
        refine ACs.pure (Valid_pure x.1 y.1 z.1 sx sy sz) ?_
        rcases Bool.eq_false_or_eq_true (validB x.1 y.1 z.1) with hv | hv
        · simp (dsimp := false) only [go_sem, ↓reduceIte, Nat.reduceEqDiff, Nat.reduceLT, Nat.reduceAdd, Nat.reduceSub, Nat.reduceMul, Nat.reduceLeDiff, reduceCtorEq, Int.reduceNeg, Int.reduceToNat, Int.reduceLT, Int.reduceLE, Int.reduceGE, Int.reduceGT, Int.reduceEq, hA, hB, hC, hD, hE, hF, hv]
          simp [prinR, prinA, hx, hy, hz, h1, h2, h3, hv]
        · simp (dsimp := false) only [go_sem, ↓reduceIte, Nat.reduceEqDiff, Nat.reduceLT, Nat.reduceAdd, Nat.reduceSub, Nat.reduceMul, Nat.reduceLeDiff, reduceCtorEq, Int.reduceNeg, Int.reduceToNat, Int.reduceLT, Int.reduceLE, Int.reduceGE, Int.reduceGT, Int.reduceEq, hA, hB, hC, hD, hE, hF, hv]
          simp [prinR, prinA, hx, hy, hz, h1, h2, h3, hv]
      · simp (dsimp := false) only [go_sem, ↓reduceIte, Nat.reduceEqDiff, Nat.reduceLT, Nat.reduceAdd, Nat.reduceSub, Nat.reduceMul, Nat.reduceLeDiff, reduceCtorEq, Int.reduceNeg, Int.reduceToNat, Int.reduceLT, Int.reduceLE, Int.reduceGE, Int.reduceGT, Int.reduceEq, hz, h1, h2, h3, hA, hB, w1, w2, w3, c3]
        simp [prinR, prinA, hx, hy, hz, h1, h2, h3]
    · simp (dsimp := false) only [go_sem, ↓reduceIte, Nat.reduceEqDiff, Nat.reduceLT, Nat.reduceAdd, Nat.reduceSub, Nat.reduceMul, Nat.reduceLeDiff, reduceCtorEq, Int.reduceNeg, Int.reduceToNat, Int.reduceLT, Int.reduceLE, Int.reduceGE, Int.reduceGT, Int.reduceEq, hy, h1, h2, hA, hB, w1, w2, w3, c3]
      simp [prinR, prinA, hx, hy, h1, h2]
  · simp (dsimp := false) only [go_sem, ↓reduceIte, Nat.reduceEqDiff, Nat.reduceLT, Nat.reduceAdd, Nat.reduceSub, Nat.reduceMul, Nat.reduceLeDiff, reduceCtorEq, Int.reduceNeg, Int.reduceToNat, Int.reduceLT, Int.reduceLE, Int.reduceGE, Int.reduceGT, Int.reduceEq, hx, h1, hA, hB, w1, w2, w3, c3]
    simp [prinR, prinA, hx, h1]
end Go.Proofs.YtghnigbihllnmaaGreat.Fn
