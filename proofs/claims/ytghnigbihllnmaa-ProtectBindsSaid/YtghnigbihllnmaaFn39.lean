/- Requests to a KDC are decoded. -/
import Derived.Test.YtghnigbihllnmaaFn38
import Derived.Test.YtghnigbihllnmaaFn15
set_option linter.unusedVariables false
set_option linter.unusedSimpArgs false
namespace Go.Proofs.Ytghnigbihllnmaa.Fn
open Go Hl Sp Ty
set_option maxRecDepth 100000
theorem hdIs_len {b : List UInt8} {ks : List Int} {lt : Bool} (h : hdIs b ks = (lt, 0)) : (2 : Int) ≤ b.length := by
  by_cases hl : (b.length : Int) < 2
  · rw [hdIs, hdR, if_pos hl] at h
    simp at h
  · omega
theorem kdcOpen_own (b : List UInt8) (kind : Int) (lt : Bool) (e : Int) (hn : b.length ≤ 140737488355000) (hI : hdIs b [kind] = (lt, e)) (own : Own) (K : AV → Own → Prop)
    (h : (e ≠ 0 → K (.tup [.raw (.pointer none), .raw (.bool false), .raw (.int .i64 e)]) own) ∧ (e = 0 → ∀ k, own k = none → K (.tup [.raw (.pointer (some ⟨k, 0, none⟩)), .raw (.bool lt), .raw (.int .i64 0)]) (own.set k (curO b lt (2, false))))) :
    AC Try.prog 93 [.lst 1 (b.map byteA), .raw (.int .i64 kind)] own K := by
  have hP := hdIs_pure b [kind] hn (by simp)
  rw [hI] at hP
  simp only [List.map_cons, List.map_nil, iA] at hP
  refine AC.of_body (M := []) Try.func93 rfl (by kernel_rfl) (Nat.le_of_ble_eq_true rfl) ?_; simp only [Try.results93, Try.ntmps93]
  simp (dsimp := false) only [go_sem, ↓reduceIte, Nat.reduceEqDiff, Nat.reduceLT, Nat.reduceAdd, Nat.reduceSub, Nat.reduceMul, Nat.reduceLeDiff, reduceCtorEq, Int.reduceNeg, Int.reduceToNat, Int.reduceLT, Int.reduceLE, Int.reduceGE, Int.reduceGT, Int.reduceEq]
  refine ACs.pure hP ?_
  by_cases he : e = 0
  · simp (dsimp := false) only [go_sem, ↓reduceIte, Nat.reduceEqDiff, Nat.reduceLT, Nat.reduceAdd, Nat.reduceSub, Nat.reduceMul, Nat.reduceLeDiff, reduceCtorEq, Int.reduceNeg, Int.reduceToNat, Int.reduceLT, Int.reduceLE, Int.reduceGE, Int.reduceGT, Int.reduceEq, he]
    refine ACs.of (CNew_own b 2 lt _ _ fun k hk => ?_)
    simp (dsimp := false) only [go_sem, ↓reduceIte, Nat.reduceEqDiff, Nat.reduceLT, Nat.reduceAdd, Nat.reduceSub, Nat.reduceMul, Nat.reduceLeDiff, reduceCtorEq, Int.reduceNeg, Int.reduceToNat, Int.reduceLT, Int.reduceLE, Int.reduceGE, Int.reduceGT, Int.reduceEq]
    exact h.2 he k hk
  · simp (dsimp := false) only [go_sem, ↓reduceIte, Nat.reduceEqDiff, Nat.reduceLT, Nat.reduceAdd, Nat.reduceSub, Nat.reduceMul, Nat.reduceLeDiff, reduceCtorEq, Int.reduceNeg, Int.reduceToNat, Int.reduceLT, Int.reduceLE, Int.reduceGE, Int.reduceGT, Int.reduceEq, he]
    exact h.1 he
theorem kdcIs_own (b : List UInt8) (lt : Bool) (s : Int × Bool) (k : Nat) (own : Own) (K : AV → Own → Prop) (hk : own k = some (curO b lt s)) (x : List UInt8) (e : Int)
    (h : K (.raw (.bool (!s.2 && decide (e = 0) && decide (x = b)))) own) :
    AC Try.prog 95 [.lst 1 (b.map byteA), .raw (.pointer (some ⟨k, 0, none⟩)), .lst 1 (x.map byteA), .raw (.int .i64 e)] own K := by
  refine AC.of_body (M := []) Try.func95 rfl (by kernel_rfl) (Nat.le_of_ble_eq_true rfl) ?_; simp only [Try.results95, Try.ntmps95]
  simp (dsimp := false) only [go_sem, ↓reduceIte, Nat.reduceEqDiff, Nat.reduceLT, Nat.reduceAdd, Nat.reduceSub, Nat.reduceMul, Nat.reduceLeDiff, reduceCtorEq, Int.reduceNeg, Int.reduceToNat, Int.reduceLT, Int.reduceLE, Int.reduceGE, Int.reduceGT, Int.reduceEq]
  refine ACs.of (CBad_own b lt s k _ _ hk ?_)
  rcases Bool.eq_false_or_eq_true s.2 with hb | hb
  · rw [hb] at h
    simp (dsimp := false) only [go_sem, ↓reduceIte, Nat.reduceEqDiff, Nat.reduceLT, Nat.reduceAdd, Nat.reduceSub, Nat.reduceMul, Nat.reduceLeDiff, reduceCtorEq, Int.reduceNeg, Int.reduceToNat, Int.reduceLT, Int.reduceLE, Int.reduceGE, Int.reduceGT, Int.reduceEq, hb]
    exact h
  · rw [hb] at h
    by_cases he : e = 0
    · simp only [he, decide_true, Bool.not_false, Bool.true_and] at h
      simp (dsimp := false) only [go_sem, ↓reduceIte, Nat.reduceEqDiff, Nat.reduceLT, Nat.reduceAdd, Nat.reduceSub, Nat.reduceMul, Nat.reduceLeDiff, reduceCtorEq, Int.reduceNeg, Int.reduceToNat, Int.reduceLT, Int.reduceLE, Int.reduceGE, Int.reduceGT, Int.reduceEq, hb, he]
      refine ACs.pure (Equal_pure x b) ?_
      simp (dsimp := false) only [go_sem, ↓reduceIte, Nat.reduceEqDiff, Nat.reduceLT, Nat.reduceAdd, Nat.reduceSub, Nat.reduceMul, Nat.reduceLeDiff, reduceCtorEq, Int.reduceNeg, Int.reduceToNat, Int.reduceLT, Int.reduceLE, Int.reduceGE, Int.reduceGT, Int.reduceEq]
      exact h
    · simp only [he, decide_false, Bool.not_false, Bool.true_and, Bool.false_and] at h
      simp (dsimp := false) only [go_sem, ↓reduceIte, Nat.reduceEqDiff, Nat.reduceLT, Nat.reduceAdd, Nat.reduceSub, Nat.reduceMul, Nat.reduceLeDiff, reduceCtorEq, Int.reduceNeg, Int.reduceToNat, Int.reduceLT, Int.reduceLE, Int.reduceGE, Int.reduceGT, Int.reduceEq, hb, he]
      exact h
end Go.Proofs.Ytghnigbihllnmaa.Fn
