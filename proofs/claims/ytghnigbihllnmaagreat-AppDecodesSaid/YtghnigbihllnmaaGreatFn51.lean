/- The law on replies of a KDC. -/
import Derived.Test.YtghnigbihllnmaaGreatFn50
import Derived.Test.YtghnigbihllnmaaGreatFn46
import Derived.Test.YtghnigbihllnmaaGreatFn40
import Derived.Test.YtghnigbihllnmaaGreatFn33
set_option linter.unusedVariables false
set_option linter.unusedSimpArgs false
namespace Go.Proofs.YtghnigbihllnmaaGreat.Fn
open Go Hl Sp Ty
set_option maxRecDepth 100000
theorem repB_length (lt : Bool) (n i r : ByteArray) (tm ex kv : Int) (x : List UInt8) : (repB lt n i r tm ex kv x).length ≤ n.size + i.size + r.size + x.length + 20 := by
  rw [repB, List.length_append, hdB_length, repF_length]
  omega
theorem reply9_det (bs x : List UInt8) (lt : Bool) (hb : bs.length ≤ 140737488355328) : ∃ d, PC Tryz.prog 10 [.lst 1 (bs.map byteA), .lst 1 (x.map byteA), .raw (.bool lt)] d ∧ ∃ n i r tm ex kv, d = repA lt n i r tm ex kv x ∧ n.size ≤ 39 ∧ i.size ≤ 39 ∧ r.size ≤ 39 := by
  obtain ⟨ad_, hA, lt', n, i, r, ad, k, li, is, s, t, hd, hok⟩ := Ticket_det bs hb
  have hz := hok.size
  refine ⟨repA lt n i r is ad li x, ?_, n, i, r, is, ad, li, rfl, by omega, by omega, by omega⟩
  subst hd
  refine PC.of_ac ?_
  unfold ticketA at hA
  unfold repA
  refine AC.of_body (M := []) Tryz.func10 rfl (by kernel_rfl) (Nat.le_of_ble_eq_true rfl) ?_; simp only [Tryz.results10, Tryz.ntmps10]
  simp (dsimp := false) only [go_sem, ↓reduceIte, Nat.reduceEqDiff, Nat.reduceLT, Nat.reduceAdd, Nat.reduceSub, Nat.reduceMul, Nat.reduceLeDiff, reduceCtorEq, Int.reduceNeg, Int.reduceToNat, Int.reduceLT, Int.reduceLE, Int.reduceGE, Int.reduceGT, Int.reduceEq]
  intro k1 hk1
  refine ACs.pure hA ?_
  simp (dsimp := false) only [go_sem, ↓reduceIte, Nat.reduceEqDiff, Nat.reduceLT, Nat.reduceAdd, Nat.reduceSub, Nat.reduceMul, Nat.reduceLeDiff, reduceCtorEq, Int.reduceNeg, Int.reduceToNat, Int.reduceLT, Int.reduceLE, Int.reduceGE, Int.reduceGT, Int.reduceEq]
  intro k2 hk2
  have q1 := none_ne hk2
  have a1 : ∀ (own : Own) o, (own.set k2 o) k1 = own k1 := fun own o => Own.set_ne _ _ (Ne.symm q1)
  have a2 : ∀ (own : Own) o, (own.set k1 o) k2 = own k2 := fun own o => Own.set_ne _ _ q1
  (try simp (dsimp := false) only [go_sem, ↓reduceIte, Nat.reduceEqDiff, Nat.reduceLT, Nat.reduceAdd, Nat.reduceSub, Nat.reduceMul, Nat.reduceLeDiff, reduceCtorEq, Int.reduceNeg, Int.reduceToNat, Int.reduceLT, Int.reduceLE, Int.reduceGE, Int.reduceGT, Int.reduceEq, a1, a2])
theorem SameReply_refl (lt : Bool) (n i r : ByteArray) (tm ex kv : Int) (x : List UInt8) : PC Tryz.prog 20 [repA lt n i r tm ex kv x, repA lt n i r tm ex kv x] (.raw (.bool true)) := by
  refine PC.of_ac ?_
  unfold repA
  refine AC.of_body (M := []) Tryz.func20 rfl (by kernel_rfl) (Nat.le_of_ble_eq_true rfl) ?_; simp only [Tryz.results20, Tryz.ntmps20]
  simp (dsimp := false) only [go_sem, ↓reduceIte, Nat.reduceEqDiff, Nat.reduceLT, Nat.reduceAdd, Nat.reduceSub, Nat.reduceMul, Nat.reduceLeDiff, reduceCtorEq, Int.reduceNeg, Int.reduceToNat, Int.reduceLT, Int.reduceLE, Int.reduceGE, Int.reduceGT, Int.reduceEq, bytes_eq]
end Go.Proofs.YtghnigbihllnmaaGreat.Fn
