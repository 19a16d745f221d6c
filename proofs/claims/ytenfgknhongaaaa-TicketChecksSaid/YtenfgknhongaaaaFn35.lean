/- The law on which tickets are valid. -/
import Derived.Test.YtenfgknhongaaaaFn33
set_option linter.unusedVariables false
set_option linter.unusedSimpArgs false
namespace Go.Proofs.Ytenfgknhongaaaa.Fn
open Go Hl Sp Ty
set_option maxRecDepth 100000
/-- A ticket with short texts. -/
def TkB (d : AV) : Prop := ∃ lt n i r ad k li is s t, d = ticketA lt n i r ad k li is s t ∧ n.size ≤ 100 ∧ i.size ≤ 100 ∧ r.size ≤ 100 ∧ s.size ≤ 100 ∧ t.size ≤ 100 ∧ 0 ≤ k ∧ k < 18446744073709551616
theorem tmod_cases10 {f : Int} (h : 0 ≤ f) : f.tmod 10 = 0 ∨ f.tmod 10 = 1 ∨ f.tmod 10 = 2 ∨ f.tmod 10 = 3 ∨ f.tmod 10 = 4 ∨ f.tmod 10 = 5 ∨ f.tmod 10 = 6 ∨ f.tmod 10 = 7 ∨ f.tmod 10 = 8 ∨ f.tmod 10 = 9 := by
  rw [Int.tmod_eq_emod_of_nonneg h]; omega
theorem wrap_u64_range (x : Int) : 0 ≤ IntKind.u64.wrap x ∧ IntKind.u64.wrap x < 18446744073709551616 := by
  unfold IntKind.wrap
  simp [IntKind.bits, IntKind.signed]
  omega
set_option maxHeartbeats 8000000 in
theorem changed6_pn (lt : Bool) (n i r : ByteArray) (ad k li is : Int) (s t : ByteArray) (field nn : Int) (x : ByteArray) (hf : 0 ≤ field ∧ field ≤ 255) (hx : x.size ≤ 100)
    (hz : n.size ≤ 100 ∧ i.size ≤ 100 ∧ r.size ≤ 100 ∧ s.size ≤ 100 ∧ t.size ≤ 100 ∧ 0 ≤ k ∧ k < 18446744073709551616) :
    PN Try.prog 57 [ticketA lt n i r ad k li is s t, .raw (.int .u8 field), .raw (.int .i64 nn), .raw (.string x)] TkB := by
  refine PN.of_ac ?_
  obtain ⟨z1, z2, z3, z4, z5, z6, z7⟩ := hz
  have hw := wrap_u64_range nn
  have hL := Long_pure 3 (by decide) (by decide)
  rw [show (72057594037927937 : Int) + 3 = 72057594037927940 by decide] at hL
  unfold ticketA
  refine AC.of_body (M := [4]) Try.func57 rfl (by kernel_rfl) (Nat.le_of_ble_eq_true rfl) ?_; simp only [Try.results57, Try.ntmps57]
  rcases tmod_cases10 hf.1 with h | h | h | h | h | h | h | h | h | h
  all_goals
    simp (dsimp := false) only [go_sem, ↓reduceIte, Nat.reduceEqDiff, Nat.reduceLT, Nat.reduceAdd, Nat.reduceSub, Nat.reduceMul, Nat.reduceLeDiff, reduceCtorEq, Int.reduceNeg, Int.reduceToNat, Int.reduceLT, Int.reduceLE, Int.reduceGE, Int.reduceGT, Int.reduceEq, h]
    intro k1 hk1 k2 hk2
    have q1 := none_ne hk2
    have a1 : ∀ (own : Own) o, (own.set k2 o) k1 = own k1 := fun own o => Own.set_ne _ _ (Ne.symm q1)
    have a2 : ∀ (own : Own) o, (own.set k1 o) k2 = own k2 := fun own o => Own.set_ne _ _ q1
    (try simp (dsimp := false) only [go_sem, ↓reduceIte, Nat.reduceEqDiff, Nat.reduceLT, Nat.reduceAdd, Nat.reduceSub, Nat.reduceMul, Nat.reduceLeDiff, reduceCtorEq, Int.reduceNeg, Int.reduceToNat, Int.reduceLT, Int.reduceLE, Int.reduceGE, Int.reduceGT, Int.reduceEq, a1, a2])
    (try refine ACs.pure hL ?_)
    (try simp (dsimp := false) only [go_sem, ↓reduceIte, Nat.reduceEqDiff, Nat.reduceLT, Nat.reduceAdd, Nat.reduceSub, Nat.reduceMul, Nat.reduceLeDiff, reduceCtorEq, Int.reduceNeg, Int.reduceToNat, Int.reduceLT, Int.reduceLE, Int.reduceGE, Int.reduceGT, Int.reduceEq, a1, a2])
    refine ⟨_, _, _, _, _, _, _, _, _, _, rfl, ?_, ?_, ?_, ?_, ?_, ?_, ?_⟩ <;> omega
set_option maxHeartbeats 8000000 in
theorem TicketChecks_pc (lt : Bool) (n i r : ByteArray) (ad k li is : Int) (s t : ByteArray) (bs : List UInt8) (field : Int) (nn : Int) (small : Int) (x : ByteArray) (hk : 0 ≤ k ∧ k ≤ 18446744073709551615) (hf : 0 ≤ field ∧ field ≤ 255) (hs : 0 ≤ small ∧ small ≤ 255) :
    PC Try.prog 9 [ticketA lt n i r ad k li is s t, .lst 1 (bs.map byteA), .raw (.int .u8 field), .raw (.int .i64 nn), .raw (.int .u8 small), .raw (.string x)] (.raw (.bool true)) := by
  refine PC.of_ac ?_
  have hlong := long6_pure lt n i r ad k li is s t
  unfold ticketA at hlong ⊢
  refine AC.of_body (M := []) Try.func9 rfl (by kernel_rfl) (Nat.le_of_ble_eq_true rfl) ?_; simp only [Try.results9, Try.ntmps9]
  simp (dsimp := false) only [go_sem, ↓reduceIte, Nat.reduceEqDiff, Nat.reduceLT, Nat.reduceAdd, Nat.reduceSub, Nat.reduceMul, Nat.reduceLeDiff, reduceCtorEq, Int.reduceNeg, Int.reduceToNat, Int.reduceLT, Int.reduceLE, Int.reduceGE, Int.reduceGT, Int.reduceEq]
  refine ACs.pure awake6_pure ?_
  simp (dsimp := false) only [go_sem, ↓reduceIte, Nat.reduceEqDiff, Nat.reduceLT, Nat.reduceAdd, Nat.reduceSub, Nat.reduceMul, Nat.reduceLeDiff, reduceCtorEq, Int.reduceNeg, Int.reduceToNat, Int.reduceLT, Int.reduceLE, Int.reduceGE, Int.reduceGT, Int.reduceEq]
  refine ACs.pure hlong ?_
  rcases Bool.eq_false_or_eq_true (long6B n i r s t) with hl | hl
  · simp (dsimp := false) only [go_sem, ↓reduceIte, Nat.reduceEqDiff, Nat.reduceLT, Nat.reduceAdd, Nat.reduceSub, Nat.reduceMul, Nat.reduceLeDiff, reduceCtorEq, Int.reduceNeg, Int.reduceToNat, Int.reduceLT, Int.reduceLE, Int.reduceGE, Int.reduceGT, Int.reduceEq, hl]
  by_cases h1 : (x.size : Int) > 100
  · simp (dsimp := false) only [go_sem, ↓reduceIte, Nat.reduceEqDiff, Nat.reduceLT, Nat.reduceAdd, Nat.reduceSub, Nat.reduceMul, Nat.reduceLeDiff, reduceCtorEq, Int.reduceNeg, Int.reduceToNat, Int.reduceLT, Int.reduceLE, Int.reduceGE, Int.reduceGT, Int.reduceEq, hl, h1]
  by_cases h2 : (bs.length : Int) > 40
  · simp (dsimp := false) only [go_sem, ↓reduceIte, Nat.reduceEqDiff, Nat.reduceLT, Nat.reduceAdd, Nat.reduceSub, Nat.reduceMul, Nat.reduceLeDiff, reduceCtorEq, Int.reduceNeg, Int.reduceToNat, Int.reduceLT, Int.reduceLE, Int.reduceGE, Int.reduceGT, Int.reduceEq, hl, h1, h2]
  simp (dsimp := false) only [go_sem, ↓reduceIte, Nat.reduceEqDiff, Nat.reduceLT, Nat.reduceAdd, Nat.reduceSub, Nat.reduceMul, Nat.reduceLeDiff, reduceCtorEq, Int.reduceNeg, Int.reduceToNat, Int.reduceLT, Int.reduceLE, Int.reduceGE, Int.reduceGT, Int.reduceEq, hl, h1, h2]
  have hz' := long6B_false hl
  obtain ⟨ad_, hA, lt', n', i', r', ad', k', li', is', s', t', hd, hok⟩ := Ticket_det bs (by omega)
  have hz := hok.size
  have hchk := hok.chk
  subst hd
  refine ACs.pure hA ?_
  unfold ticketA
  have w1 : IntKind.i64.wrap small = small := wrap_i64 (by omega) (by omega)
  have w2 : IntKind.i64.wrap (small - 1) = small - 1 := wrap_i64 (by omega) (by omega)
  obtain ⟨m6, hm6⟩ : ∃ m : Nat, small.tmod 6 = m := ⟨(small.tmod 6).toNat, by rw [Int.tmod_eq_emod_of_nonneg hs.1]; omega⟩
  have hm : m6 < 6 := by rw [Int.tmod_eq_emod_of_nonneg hs.1] at hm6; omega
  obtain ⟨M, hM⟩ : ∃ M : Int, [AV.raw (.int .i64 nn), .raw (.int .i64 (small - 1)), .raw (.int .i64 4294967296), .raw (.int .i64 4294967295), .raw (.int .i64 256), .raw (.int .i64 255)].getD m6 .any = .raw (.int .i64 M) := by
    match m6, hm with
    | 0, _ => exact ⟨_, rfl⟩
    | 1, _ => exact ⟨_, rfl⟩
    | 2, _ => exact ⟨_, rfl⟩
    | 3, _ => exact ⟨_, rfl⟩
    | 4, _ => exact ⟨_, rfl⟩
    | 5, _ => exact ⟨_, rfl⟩
  have hC := changed6_pn lt' n' i' r' ad' k' li' is' s' t' field M x hf (by omega) (by omega)
  unfold ticketA at hC
  simp (dsimp := false) only [go_sem, ↓reduceIte, Nat.reduceEqDiff, Nat.reduceLT, Nat.reduceAdd, Nat.reduceSub, Nat.reduceMul, Nat.reduceLeDiff, reduceCtorEq, Int.reduceNeg, Int.reduceToNat, Int.reduceLT, Int.reduceLE, Int.reduceGE, Int.reduceGT, Int.reduceEq, w1, w2, hm6, hM]
  intro k1 hk1

  refine ⟨⟨by omega, by omega⟩, ?_⟩
  refine ACs.pn hC ?_
  rintro _ ⟨LT, N, I, R, AD, K, LI, IS, S, T, rfl, hN⟩
  unfold ticketA
  simp (dsimp := false) only [go_sem, ↓reduceIte, Nat.reduceEqDiff, Nat.reduceLT, Nat.reduceAdd, Nat.reduceSub, Nat.reduceMul, Nat.reduceLeDiff, reduceCtorEq, Int.reduceNeg, Int.reduceToNat, Int.reduceLT, Int.reduceLE, Int.reduceGE, Int.reduceGT, Int.reduceEq]
  intro k2 hk2
  have n1 := none_ne hk2
  have a1 : ∀ (own : Own) o, (own.set k1 o) k2 = own k2 := fun own o => Own.set_ne _ _ n1
  have a2 : ∀ (own : Own) o, (own.set k2 o) k1 = own k1 := fun own o => Own.set_ne _ _ (Ne.symm n1)
  refine AW.ghost (Ghost.slot (t := 15) (Weak1.box (d := .st _) (Own.set_same _ _ _) rfl rfl)) ?_
  refine AW.ghost (Ghost.slot (t := 13) (Weak1.box (d := .st _) ((Own.del_ne _ (Ne.symm n1)).trans ((a2 _ _).trans (Own.set_same _ _ _))) rfl rfl)) ?_
  have c1 := fun lt n i r ad k li is s t a b c d e f g => tkCheck_pure lt n i r ad k li is s t a b c d e f g
  have c2 := fun lt n i r ad k li is s t a b c d e f g => rtkCheck_pure lt n i r ad k li is s t a b c d e f g
  unfold ticketA at c1 c2
  refine AW.draw (M := []) [.v, .e, .v, .v, .v, .e, .v, .e, .v, .v, .v, .v, .e, .v, .e, .v, .v, .v] mixed (by kernel_rfl) ?_
  simp (dsimp := false) only [go_sem, ↓reduceIte, Nat.reduceEqDiff, Nat.reduceLT, Nat.reduceAdd, Nat.reduceSub, Nat.reduceMul, Nat.reduceLeDiff, reduceCtorEq, Int.reduceNeg, Int.reduceToNat, Int.reduceLT, Int.reduceLE, Int.reduceGE, Int.reduceGT, Int.reduceEq]
  refine ACs.pure (c1 _ _ _ _ _ _ _ _ _ _ (by omega) (by omega) (by omega) (by omega) (by omega) (by omega) (by omega)) ?_
  simp (dsimp := false) only [go_sem, ↓reduceIte, Nat.reduceEqDiff, Nat.reduceLT, Nat.reduceAdd, Nat.reduceSub, Nat.reduceMul, Nat.reduceLeDiff, reduceCtorEq, Int.reduceNeg, Int.reduceToNat, Int.reduceLT, Int.reduceLE, Int.reduceGE, Int.reduceGT, Int.reduceEq, hchk]
  refine ACs.pure (c1 _ _ _ _ _ _ _ _ _ _ (by omega) (by omega) (by omega) (by omega) (by omega) (by omega) (by omega)) ?_
  simp (dsimp := false) only [go_sem, ↓reduceIte, Nat.reduceEqDiff, Nat.reduceLT, Nat.reduceAdd, Nat.reduceSub, Nat.reduceMul, Nat.reduceLeDiff, reduceCtorEq, Int.reduceNeg, Int.reduceToNat, Int.reduceLT, Int.reduceLE, Int.reduceGE, Int.reduceGT, Int.reduceEq]
  refine ACs.pure (c2 _ _ _ _ _ _ _ _ _ _ (by omega) (by omega) (by omega) (by omega) (by omega) (by omega) (by omega)) ?_
  simp (dsimp := false) only [go_sem, ↓reduceIte, Nat.reduceEqDiff, Nat.reduceLT, Nat.reduceAdd, Nat.reduceSub, Nat.reduceMul, Nat.reduceLeDiff, reduceCtorEq, Int.reduceNeg, Int.reduceToNat, Int.reduceLT, Int.reduceLE, Int.reduceGE, Int.reduceGT, Int.reduceEq]
  refine ACs.pure (c1 _ _ _ _ _ _ _ _ _ _ (by omega) (by omega) (by omega) (by omega) (by omega) (by omega) (by omega)) ?_
  simp (dsimp := false) only [go_sem, ↓reduceIte, Nat.reduceEqDiff, Nat.reduceLT, Nat.reduceAdd, Nat.reduceSub, Nat.reduceMul, Nat.reduceLeDiff, reduceCtorEq, Int.reduceNeg, Int.reduceToNat, Int.reduceLT, Int.reduceLE, Int.reduceGE, Int.reduceGT, Int.reduceEq]
  refine ACs.pure (c2 _ _ _ _ _ _ _ _ _ _ (by omega) (by omega) (by omega) (by omega) (by omega) (by omega) (by omega)) ?_
  simp (dsimp := false) only [go_sem, ↓reduceIte, Nat.reduceEqDiff, Nat.reduceLT, Nat.reduceAdd, Nat.reduceSub, Nat.reduceMul, Nat.reduceLeDiff, reduceCtorEq, Int.reduceNeg, Int.reduceToNat, Int.reduceLT, Int.reduceLE, Int.reduceGE, Int.reduceGT, Int.reduceEq]
end Go.Proofs.Ytenfgknhongaaaa.Fn
