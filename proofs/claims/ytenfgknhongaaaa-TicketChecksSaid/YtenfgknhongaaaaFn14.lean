/- The law on which authenticators are valid. -/
import Derived.Test.YtenfgknhongaaaaFn13
set_option linter.unusedVariables false
set_option linter.unusedSimpArgs false
namespace Go.Proofs.Ytenfgknhongaaaa.Fn
open Go Hl Sp Ty
set_option maxRecDepth 100000

def longB (n i r : ByteArray) : Bool := decide ((n.size : Int) > 100) || decide ((i.size : Int) > 100) || decide ((r.size : Int) > 100)
theorem long7_pure (n i r : ByteArray) (c t m : Int) : PC Try.prog 30 [authA n i r c t m] (.raw (.bool (longB n i r))) := by
  refine PC.of_ac ?_
  unfold authA
  refine AC.of_body (M := []) Try.func30 rfl (by kernel_rfl) (Nat.le_of_ble_eq_true rfl) ?_; simp only [Try.results30, Try.ntmps30]
  by_cases h1 : (n.size : Int) > 100
  · simp (dsimp := false) only [go_sem, ↓reduceIte, Nat.reduceEqDiff, Nat.reduceLT, Nat.reduceAdd, Nat.reduceSub, Nat.reduceMul, Nat.reduceLeDiff, reduceCtorEq, Int.reduceNeg, Int.reduceToNat, Int.reduceLT, Int.reduceLE, Int.reduceEq, h1]
    simp [longB]; omega
  by_cases h2 : (i.size : Int) > 100
  · simp (dsimp := false) only [go_sem, ↓reduceIte, Nat.reduceEqDiff, Nat.reduceLT, Nat.reduceAdd, Nat.reduceSub, Nat.reduceMul, Nat.reduceLeDiff, reduceCtorEq, Int.reduceNeg, Int.reduceToNat, Int.reduceLT, Int.reduceLE, Int.reduceEq, h1, h2]
    simp [longB]; omega
  by_cases h3 : (r.size : Int) > 100
  · simp (dsimp := false) only [go_sem, ↓reduceIte, Nat.reduceEqDiff, Nat.reduceLT, Nat.reduceAdd, Nat.reduceSub, Nat.reduceMul, Nat.reduceLeDiff, reduceCtorEq, Int.reduceNeg, Int.reduceToNat, Int.reduceLT, Int.reduceLE, Int.reduceEq, h1, h2, h3]
    simp [longB]; omega
  simp (dsimp := false) only [go_sem, ↓reduceIte, Nat.reduceEqDiff, Nat.reduceLT, Nat.reduceAdd, Nat.reduceSub, Nat.reduceMul, Nat.reduceLeDiff, reduceCtorEq, Int.reduceNeg, Int.reduceToNat, Int.reduceLT, Int.reduceLE, Int.reduceEq, h1, h2, h3]
  simp [longB]; omega
theorem longB_false {n i r : ByteArray} (h : longB n i r = false) : n.size ≤ 100 ∧ i.size ≤ 100 ∧ r.size ≤ 100 := by
  unfold longB at h
  simp only [Bool.or_eq_false_iff, decide_eq_false_iff_not] at h
  omega
theorem tmod_cases5 {f : Int} (h : 0 ≤ f) : f.tmod 5 = 0 ∨ f.tmod 5 = 1 ∨ f.tmod 5 = 2 ∨ f.tmod 5 = 3 ∨ f.tmod 5 = 4 := by
  rw [Int.tmod_eq_emod_of_nonneg h]; omega
set_option maxHeartbeats 4000000 in
theorem AuthenticatorChecks_pc (n i r : ByteArray) (c t m : Int) (bs : List UInt8) (field : Int) (nn : Int) (small : Int) (s : ByteArray) (hf : 0 ≤ field) (hf' : field ≤ 255) (hs : 0 ≤ small) (hs' : small ≤ 255) :
    PC Try.prog 5 [authA n i r c t m, .lst 1 (bs.map byteA), .raw (.int .u8 field), .raw (.int .i64 nn), .raw (.int .u8 small), .raw (.string s)] (.raw (.bool true)) := by
  refine PC.of_ac ?_
  have hlong := long7_pure n i r c t m
  unfold authA at hlong ⊢
  refine AC.of_body (M := []) Try.func5 rfl (by kernel_rfl) (Nat.le_of_ble_eq_true rfl) ?_; simp only [Try.results5, Try.ntmps5]
  simp (dsimp := false) only [go_sem, ↓reduceIte, Nat.reduceEqDiff, Nat.reduceLT, Nat.reduceAdd, Nat.reduceSub, Nat.reduceMul, Nat.reduceLeDiff, reduceCtorEq, Int.reduceNeg, Int.reduceToNat, Int.reduceLT, Int.reduceLE, Int.reduceEq]
  refine ACs.pure awake7_pure ?_
  simp (dsimp := false) only [go_sem, ↓reduceIte, Nat.reduceEqDiff, Nat.reduceLT, Nat.reduceAdd, Nat.reduceSub, Nat.reduceMul, Nat.reduceLeDiff, reduceCtorEq, Int.reduceNeg, Int.reduceToNat, Int.reduceLT, Int.reduceLE, Int.reduceEq]
  refine ACs.pure hlong ?_
  rcases Bool.eq_false_or_eq_true (longB n i r) with hl | hl
  · simp (dsimp := false) only [go_sem, ↓reduceIte, Nat.reduceEqDiff, Nat.reduceLT, Nat.reduceAdd, Nat.reduceSub, Nat.reduceMul, Nat.reduceLeDiff, reduceCtorEq, Int.reduceNeg, Int.reduceToNat, Int.reduceLT, Int.reduceLE, Int.reduceEq, hl]
  by_cases h1 : (s.size : Int) > 100
  · simp (dsimp := false) only [go_sem, ↓reduceIte, Nat.reduceEqDiff, Nat.reduceLT, Nat.reduceAdd, Nat.reduceSub, Nat.reduceMul, Nat.reduceLeDiff, reduceCtorEq, Int.reduceNeg, Int.reduceToNat, Int.reduceLT, Int.reduceLE, Int.reduceEq, hl, h1]
  by_cases h2 : (bs.length : Int) > 40
  · simp (dsimp := false) only [go_sem, ↓reduceIte, Nat.reduceEqDiff, Nat.reduceLT, Nat.reduceAdd, Nat.reduceSub, Nat.reduceMul, Nat.reduceLeDiff, reduceCtorEq, Int.reduceNeg, Int.reduceToNat, Int.reduceLT, Int.reduceLE, Int.reduceEq, hl, h1, h2]
  simp (dsimp := false) only [go_sem, ↓reduceIte, Nat.reduceEqDiff, Nat.reduceLT, Nat.reduceAdd, Nat.reduceSub, Nat.reduceMul, Nat.reduceLeDiff, reduceCtorEq, Int.reduceNeg, Int.reduceToNat, Int.reduceLT, Int.reduceLE, Int.reduceEq, hl, h1, h2]
  refine ACs.pn (Auth_pn bs (by omega)) ?_
  rintro _ ⟨n', i', r', c', t', m', rfl, hok⟩
  unfold authA
  have e1 : IntKind.i64.wrap small = small := wrap_i64 (by omega) (by omega)
  have hm6 : 0 ≤ small.tmod 6 ∧ small.tmod 6 < 6 := by rw [Int.tmod_eq_emod_of_nonneg hs]; omega
  obtain ⟨M, hM⟩ : ∃ M : Int, [AV.raw (.int .i64 nn), .raw (.int .i64 (IntKind.i64.wrap (small - 1))), .raw (.int .i64 4294967296), .raw (.int .i64 4294967295), .raw (.int .i64 200), .raw (.int .i64 199)].getD (small.tmod 6).toNat .any = .raw (.int .i64 M) := by
    obtain ⟨j, hj⟩ : ∃ j, (small.tmod 6).toNat = j := ⟨_, rfl⟩
    have hj6 : j < 6 := by omega
    rw [hj]
    match j, hj6 with
    | 0, _ => exact ⟨_, rfl⟩
    | 1, _ => exact ⟨_, rfl⟩
    | 2, _ => exact ⟨_, rfl⟩
    | 3, _ => exact ⟨_, rfl⟩
    | 4, _ => exact ⟨_, rfl⟩
    | 5, _ => exact ⟨_, rfl⟩
  have hz := validB_size hok.1
  have hz' := longB_false hl
  have hchk := hok.chk
  simp (dsimp := false) only [go_sem, ↓reduceIte, Nat.reduceEqDiff, Nat.reduceLT, Nat.reduceAdd, Nat.reduceSub, Nat.reduceMul, Nat.reduceLeDiff, reduceCtorEq, Int.reduceNeg, Int.reduceToNat, Int.reduceLT, Int.reduceLE, Int.reduceEq, e1, hM, hm6]
  intro k1 _ k2 hk2
  have n1 := none_ne hk2
  have a1 : ∀ (own : Own) o, (own.set k1 o) k2 = own k2 := fun own o => Own.set_ne _ _ n1
  have a2 : ∀ (own : Own) o, (own.set k2 o) k1 = own k1 := fun own o => Own.set_ne _ _ (Ne.symm n1)
  rcases tmod_cases5 hf with h | h | h | h | h
  all_goals
    simp (dsimp := false) only [go_sem, ↓reduceIte, Nat.reduceEqDiff, Nat.reduceLT, Nat.reduceAdd, Nat.reduceSub, Nat.reduceMul, Nat.reduceLeDiff, reduceCtorEq, Int.reduceNeg, Int.reduceToNat, Int.reduceLT, Int.reduceLE, Int.reduceEq, h, a1, a2]
    refine AW.ghost (Ghost.slot (t := 14) (Weak1.box (d := .st _) (Own.set_same _ _ _) rfl rfl)) ?_
    refine AW.ghost (Ghost.slot (t := 13) (Weak1.box (d := .st _) ((Own.del_ne _ (Ne.symm n1)).trans ((a2 _ _).trans (Own.set_same _ _ _))) rfl rfl)) ?_
    refine AW.draw (M := []) [.v, .e, .v, .v, .v, .e, .v, .e, .v, .v, .v, .v, .e, .v, .e, .v, .v, .v] mixed (by kernel_rfl) ?_
    simp (dsimp := false) only [go_sem, ↓reduceIte, Nat.reduceEqDiff, Nat.reduceLT, Nat.reduceAdd, Nat.reduceSub, Nat.reduceMul, Nat.reduceLeDiff, reduceCtorEq, Int.reduceNeg, Int.reduceToNat, Int.reduceLT, Int.reduceLE, Int.reduceEq]
    refine ACs.pure (authCheck_pure _ _ _ _ _ _ (by omega) (by omega) (by omega)) ?_
    simp (dsimp := false) only [go_sem, ↓reduceIte, Nat.reduceEqDiff, Nat.reduceLT, Nat.reduceAdd, Nat.reduceSub, Nat.reduceMul, Nat.reduceLeDiff, reduceCtorEq, Int.reduceNeg, Int.reduceToNat, Int.reduceLT, Int.reduceLE, Int.reduceEq, hchk]
    refine ACs.pure (authCheck_pure _ _ _ _ _ _ (by omega) (by omega) (by omega)) ?_
    simp (dsimp := false) only [go_sem, ↓reduceIte, Nat.reduceEqDiff, Nat.reduceLT, Nat.reduceAdd, Nat.reduceSub, Nat.reduceMul, Nat.reduceLeDiff, reduceCtorEq, Int.reduceNeg, Int.reduceToNat, Int.reduceLT, Int.reduceLE, Int.reduceEq]
    refine ACs.pure (rauthCheck_pure _ _ _ _ _ _ (by omega) (by omega) (by omega)) ?_
    simp (dsimp := false) only [go_sem, ↓reduceIte, Nat.reduceEqDiff, Nat.reduceLT, Nat.reduceAdd, Nat.reduceSub, Nat.reduceMul, Nat.reduceLeDiff, reduceCtorEq, Int.reduceNeg, Int.reduceToNat, Int.reduceLT, Int.reduceLE, Int.reduceEq]
    refine ACs.pure (authCheck_pure _ _ _ _ _ _ (by omega) (by omega) (by omega)) ?_
    simp (dsimp := false) only [go_sem, ↓reduceIte, Nat.reduceEqDiff, Nat.reduceLT, Nat.reduceAdd, Nat.reduceSub, Nat.reduceMul, Nat.reduceLeDiff, reduceCtorEq, Int.reduceNeg, Int.reduceToNat, Int.reduceLT, Int.reduceLE, Int.reduceEq]
    refine ACs.pure (rauthCheck_pure _ _ _ _ _ _ (by omega) (by omega) (by omega)) ?_
    simp (dsimp := false) only [go_sem, ↓reduceIte, Nat.reduceEqDiff, Nat.reduceLT, Nat.reduceAdd, Nat.reduceSub, Nat.reduceMul, Nat.reduceLeDiff, reduceCtorEq, Int.reduceNeg, Int.reduceToNat, Int.reduceLT, Int.reduceLE, Int.reduceEq]
end Go.Proofs.Ytenfgknhongaaaa.Fn
