/- The law on the secret parts of replies. -/
import Derived.Test.YtghnigbihllnmaaGreatFn52
import Derived.Test.YtghnigbihllnmaaGreatFn46
import Derived.Test.YtghnigbihllnmaaGreatFn40
import Derived.Test.YtghnigbihllnmaaGreatFn33
set_option linter.unusedVariables false
set_option linter.unusedSimpArgs false
namespace Go.Proofs.YtghnigbihllnmaaGreat.Fn
open Go Hl Sp Ty
set_option maxRecDepth 100000
theorem prtB_length (lt : Bool) (k : Int) (n i r : ByteArray) (li kv : Int) (x : List UInt8) (tm : Int) : (prtB lt k n i r li kv x tm).length ≤ n.size + i.size + r.size + x.length + 40 := by
  have h := padB_length ([u8 (flagZ lt)] ++ prtF lt k n i r li kv x tm)
  rw [List.length_append, prtF_length] at h
  unfold prtB
  simp only [List.length_singleton] at h
  omega
theorem prtB_short {lt : Bool} {k : Int} {n i r : ByteArray} {li kv : Int} {x : List UInt8} {tm : Int} (hc : prtChk lt k n i r li kv x tm = 0) : (prtB lt k n i r li kv x tm).length ≤ 392 := by
  obtain ⟨_, h2, _, _, _, h6⟩ := prtChk_ok hc
  have hv := validB_size h2
  obtain ⟨m, hm⟩ : ∃ m, ([u8 (flagZ lt)] ++ prtF lt k n i r li kv x tm).length = m := ⟨_, rfl⟩
  have hm' := hm
  rw [List.length_append, prtF_length] at hm'
  simp only [List.length_singleton] at hm'
  rw [prtB, padB, List.length_append, List.length_replicate, hm, padN]
  omega
theorem part9_det (bs x : List UInt8) (hb : bs.length ≤ 140737488355328) : ∃ d, PC Tryz.prog 12 [.lst 1 (bs.map byteA), .lst 1 (x.map byteA)] d ∧ ∃ k n i r li kv x' tm, d = prtA false k n i r li kv x' tm ∧ (0 ≤ k ∧ k < 18446744073709551616) ∧ n.size ≤ 39 ∧ i.size ≤ 39 ∧ r.size ≤ 39 ∧ x'.length ≤ 255 := by
  obtain ⟨ad_, hA, lt', n, i, r, ad, k, li, is, s, t, hd, hok⟩ := Ticket_det bs hb
  have hz := hok.size
  have hkr := hok.2.2.2.2.1
  have ht : (x.map byteA).take 255 = (x.take 255).map byteA := List.map_take.symm
  refine ⟨prtA false k n i r li li (if (x.length : Int) > 255 then x.take 255 else x) is, ?_, k, n, i, r, li, li, _, is, rfl, hkr, by omega, by omega, by omega, by split <;> (try simp only [List.length_take]) <;> omega⟩
  subst hd
  refine PC.of_ac ?_
  unfold ticketA at hA
  unfold prtA
  refine AC.of_body (M := []) Tryz.func12 rfl (by kernel_rfl) (Nat.le_of_ble_eq_true rfl) ?_; simp only [Tryz.results12, Tryz.ntmps12]
  simp (dsimp := false) only [go_sem, ↓reduceIte, Nat.reduceEqDiff, Nat.reduceLT, Nat.reduceAdd, Nat.reduceSub, Nat.reduceMul, Nat.reduceLeDiff, reduceCtorEq, Int.reduceNeg, Int.reduceToNat, Int.reduceLT, Int.reduceLE, Int.reduceGE, Int.reduceGT, Int.reduceEq]
  intro k1 hk1
  refine ACs.pure hA ?_
  simp (dsimp := false) only [go_sem, ↓reduceIte, Nat.reduceEqDiff, Nat.reduceLT, Nat.reduceAdd, Nat.reduceSub, Nat.reduceMul, Nat.reduceLeDiff, reduceCtorEq, Int.reduceNeg, Int.reduceToNat, Int.reduceLT, Int.reduceLE, Int.reduceGE, Int.reduceGT, Int.reduceEq]
  intro k2 hk2
  have q1 := none_ne hk2
  have a1 : ∀ (own : Own) o, (own.set k2 o) k1 = own k1 := fun own o => Own.set_ne _ _ (Ne.symm q1)
  have a2 : ∀ (own : Own) o, (own.set k1 o) k2 = own k2 := fun own o => Own.set_ne _ _ q1
  by_cases h1 : (x.length : Int) > 255
  · rw [if_pos h1]
    simp (dsimp := false) only [go_sem, ↓reduceIte, Nat.reduceEqDiff, Nat.reduceLT, Nat.reduceAdd, Nat.reduceSub, Nat.reduceMul, Nat.reduceLeDiff, reduceCtorEq, Int.reduceNeg, Int.reduceToNat, Int.reduceLT, Int.reduceLE, Int.reduceGE, Int.reduceGT, Int.reduceEq, h1, a1, a2, ht]
    (try (first | omega | (refine ⟨by omega, ?_⟩; first | omega | rfl | trivial)))
  · rw [if_neg h1]
    simp (dsimp := false) only [go_sem, ↓reduceIte, Nat.reduceEqDiff, Nat.reduceLT, Nat.reduceAdd, Nat.reduceSub, Nat.reduceMul, Nat.reduceLeDiff, reduceCtorEq, Int.reduceNeg, Int.reduceToNat, Int.reduceLT, Int.reduceLE, Int.reduceGE, Int.reduceGT, Int.reduceEq, h1, a1, a2]
theorem SamePart_refl (k : Int) (n i r : ByteArray) (li kv : Int) (x : List UInt8) (tm : Int) : PC Tryz.prog 23 [prtA false k n i r li kv x tm, prtA false k n i r li kv x tm] (.raw (.bool true)) := by
  refine PC.of_ac ?_
  unfold prtA
  refine AC.of_body (M := []) Tryz.func23 rfl (by kernel_rfl) (Nat.le_of_ble_eq_true rfl) ?_; simp only [Tryz.results23, Tryz.ntmps23]
  simp (dsimp := false) only [go_sem, ↓reduceIte, Nat.reduceEqDiff, Nat.reduceLT, Nat.reduceAdd, Nat.reduceSub, Nat.reduceMul, Nat.reduceLeDiff, reduceCtorEq, Int.reduceNeg, Int.reduceToNat, Int.reduceLT, Int.reduceLE, Int.reduceGE, Int.reduceGT, Int.reduceEq, bytes_eq]
end Go.Proofs.YtghnigbihllnmaaGreat.Fn
