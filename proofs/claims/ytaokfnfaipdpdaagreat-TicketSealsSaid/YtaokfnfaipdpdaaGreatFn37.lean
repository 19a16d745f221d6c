/- The law on sealed tickets. -/
import Derived.Test.YtaokfnfaipdpdaaGreatHlC
import Derived.Test.YtaokfnfaipdpdaaGreatFn20
import Derived.Test.YtaokfnfaipdpdaaGreatFn34
set_option linter.unusedVariables false
set_option linter.unusedSimpArgs false
namespace Go.Proofs.YtaokfnfaipdpdaaGreat.Fn
open Go Hl Sp Ty
set_option maxRecDepth 100000
set_option maxHeartbeats 8000000 in
theorem TicketSeals_pc (lt : Bool) (n i r : ByteArray) (ad k li is : Int) (s t : ByteArray) (bs : List UInt8) (key nn : Int) (b : List UInt8) (how : Int) (hk : 0 ≤ k ∧ k ≤ 18446744073709551615) (hkey : 0 ≤ key ∧ key ≤ 18446744073709551615) (hnn : 0 ≤ nn ∧ nn ≤ 255) (hh : 0 ≤ how ∧ how ≤ 65535) :
    PC Tryz.prog 3 [ticketA lt n i r ad k li is s t, .lst 1 (bs.map byteA), .raw (.int .u64 key), .raw (.int .u8 nn), .lst 1 (b.map byteA), .raw (.int .u16 how)] (.raw (.bool true)) := by
  refine PC.of_ac ?_
  have hlong := long6_pure lt n i r ad k li is s t
  unfold ticketA at hlong ⊢
  refine AC.of_body (M := []) Tryz.func3 rfl (by kernel_rfl) (Nat.le_of_ble_eq_true rfl) ?_; simp only [Tryz.results3, Tryz.ntmps3]
  simp (dsimp := false) only [go_sem, ↓reduceIte, Nat.reduceEqDiff, Nat.reduceLT, Nat.reduceAdd, Nat.reduceSub, Nat.reduceMul, Nat.reduceLeDiff, reduceCtorEq, Int.reduceNeg, Int.reduceToNat, Int.reduceLT, Int.reduceLE, Int.reduceGE, Int.reduceGT, Int.reduceEq]
  refine ACs.pure awake6_pure ?_
  simp (dsimp := false) only [go_sem, ↓reduceIte, Nat.reduceEqDiff, Nat.reduceLT, Nat.reduceAdd, Nat.reduceSub, Nat.reduceMul, Nat.reduceLeDiff, reduceCtorEq, Int.reduceNeg, Int.reduceToNat, Int.reduceLT, Int.reduceLE, Int.reduceGE, Int.reduceGT, Int.reduceEq]
  refine ACs.pure hlong ?_
  rcases Bool.eq_false_or_eq_true (long6B n i r s t) with hl | hl
  · simp (dsimp := false) only [go_sem, ↓reduceIte, Nat.reduceEqDiff, Nat.reduceLT, Nat.reduceAdd, Nat.reduceSub, Nat.reduceMul, Nat.reduceLeDiff, reduceCtorEq, Int.reduceNeg, Int.reduceToNat, Int.reduceLT, Int.reduceLE, Int.reduceGE, Int.reduceGT, Int.reduceEq, hl]
  by_cases h1 : (bs.length : Int) > 40
  · simp (dsimp := false) only [go_sem, ↓reduceIte, Nat.reduceEqDiff, Nat.reduceLT, Nat.reduceAdd, Nat.reduceSub, Nat.reduceMul, Nat.reduceLeDiff, reduceCtorEq, Int.reduceNeg, Int.reduceToNat, Int.reduceLT, Int.reduceLE, Int.reduceGE, Int.reduceGT, Int.reduceEq, hl, h1]
  by_cases h2 : (b.length : Int) > 400
  · simp (dsimp := false) only [go_sem, ↓reduceIte, Nat.reduceEqDiff, Nat.reduceLT, Nat.reduceAdd, Nat.reduceSub, Nat.reduceMul, Nat.reduceLeDiff, reduceCtorEq, Int.reduceNeg, Int.reduceToNat, Int.reduceLT, Int.reduceLE, Int.reduceGE, Int.reduceGT, Int.reduceEq, hl, h1, h2]
  simp (dsimp := false) only [go_sem, ↓reduceIte, Nat.reduceEqDiff, Nat.reduceLT, Nat.reduceAdd, Nat.reduceSub, Nat.reduceMul, Nat.reduceLeDiff, reduceCtorEq, Int.reduceNeg, Int.reduceToNat, Int.reduceLT, Int.reduceLE, Int.reduceGE, Int.reduceGT, Int.reduceEq, hl, h1, h2]
  have hz' := long6B_false hl
  obtain ⟨ad_, hA, lt', n', i', r', ad', k', li', is', s', t', hd, hok⟩ := Ticket_det bs (by omega)
  have hz := hok.size
  subst hd
  refine ACs.pure hA ?_
  unfold ticketA
  simp (dsimp := false) only [go_sem, ↓reduceIte, Nat.reduceEqDiff, Nat.reduceLT, Nat.reduceAdd, Nat.reduceSub, Nat.reduceMul, Nat.reduceLeDiff, reduceCtorEq, Int.reduceNeg, Int.reduceToNat, Int.reduceLT, Int.reduceLE, Int.reduceGE, Int.reduceGT, Int.reduceEq]
  intro k0 hk0
  refine AW.ghost (Ghost.slot (t := 13) (Weak1.box (k := k0) (d := .st _) (Own.set_same _ _ _) rfl rfl)) ?_
  have w0 : IntKind.i64.wrap nn = nn := wrap_i64 (by omega) (by omega)
  refine AW.loopJ (M := []) (X := Nat) (fun j => ⟨118, tmL [(2, .raw (.int .u64 key)), (3, .raw (.int .u8 nn)), (4, .lst 1 (b.map byteA)), (5, .raw (.int .u16 how)), (6, .ref (.st [.raw (.bool lt), .raw (.string n), .raw (.string i), .raw (.string r), .raw (.int .i64 ad), .raw (.int .u64 k), .raw (.int .i64 li), .raw (.int .i64 is), .raw (.string s), .raw (.string t)])), (13, .ref (.st [.raw (.bool lt'), .raw (.string n'), .raw (.string i'), .raw (.string r'), .raw (.int .i64 ad'), .raw (.int .u64 k'), .raw (.int .i64 li'), .raw (.int .i64 is'), .raw (.string s'), .raw (.string t')])), (14, .raw (.int .i64 j))], noOwn⟩)
    (fun j => j ≤ 4) (fun j => 4 - j) 0 (by decide) ?_ ?_
  · (refine Ghost.of ?_ (fun _ _ h => by cases h); (repeat' (first | exact all_nil | refine all_cons ?_ ?_)) <;> (first | (simp (dsimp := false) only [go_sem, ↓reduceIte, Nat.reduceEqDiff, Nat.reduceLT, Nat.reduceAdd, Nat.reduceSub, Nat.reduceMul, Nat.reduceLeDiff, reduceCtorEq, Int.reduceNeg, Int.reduceToNat, Int.reduceLT, Int.reduceLE, Int.reduceGE, Int.reduceGT, Int.reduceEq]; done) | (simp (dsimp := false) only [go_sem, ↓reduceIte, Nat.reduceEqDiff, Nat.reduceLT, Nat.reduceAdd, Nat.reduceSub, Nat.reduceMul, Nat.reduceLeDiff, reduceCtorEq, Int.reduceNeg, Int.reduceToNat, Int.reduceLT, Int.reduceLE, Int.reduceGE, Int.reduceGT, Int.reduceEq]; rfl)))
  intro j hj
  by_cases hj4 : (j : Int) < 4
  · have e1 : IntKind.i64.wrap ((j : Int) + 1) = ((j + 1 : Nat) : Int) := by rw [wrap_i64 (by omega) (by omega)]; omega
    have e2 : IntKind.i64.wrap ((j : Int).tdiv 2) = ((j / 2 : Nat) : Int) := by rw [Int.tdiv_eq_ediv_of_nonneg (by omega), wrap_i64 (by omega) (by omega)]; omega
    have e3 : (j : Int).tmod 2 = ((j % 2 : Nat) : Int) := by rw [Int.tmod_eq_emod_of_nonneg (by omega)]; omega
    obtain ⟨LT, N, I, R, AD, K, LI, IS, S, T, hX, hN⟩ : ∃ (LT : Bool) (N I R : ByteArray) (AD K LI IS : Int) (S T : ByteArray), [AV.st [.raw (.bool lt), .raw (.string n), .raw (.string i), .raw (.string r), .raw (.int .i64 ad), .raw (.int .u64 k), .raw (.int .i64 li), .raw (.int .i64 is), .raw (.string s), .raw (.string t)], AV.st [.raw (.bool lt'), .raw (.string n'), .raw (.string i'), .raw (.string r'), .raw (.int .i64 ad'), .raw (.int .u64 k'), .raw (.int .i64 li'), .raw (.int .i64 is'), .raw (.string s'), .raw (.string t')]].getD (j / 2) .any = AV.st [.raw (.bool LT), .raw (.string N), .raw (.string I), .raw (.string R), .raw (.int .i64 AD), .raw (.int .u64 K), .raw (.int .i64 LI), .raw (.int .i64 IS), .raw (.string S), .raw (.string T)] ∧ N.size ≤ 100 ∧ I.size ≤ 100 ∧ R.size ≤ 100 ∧ S.size ≤ 100 ∧ T.size ≤ 100 ∧ 0 ≤ K ∧ K < 18446744073709551616 := by
      obtain ⟨q, hq⟩ : ∃ q, j / 2 = q := ⟨_, rfl⟩
      rw [hq]
      match q, (show q < 2 by omega) with
      | 0, _ => exact ⟨_, _, _, _, _, _, _, _, _, _, rfl, by omega, by omega, by omega, by omega, by omega, by omega, by omega⟩
      | 1, _ => exact ⟨_, _, _, _, _, _, _, _, _, _, rfl, by omega, by omega, by omega, by omega, by omega, by omega, by omega⟩
    obtain ⟨Y, hY, hY0, hY1⟩ : ∃ Y : Int, [AV.raw (.int .u64 key), AV.raw (.int .u64 (72057594037927937 + nn))].getD (j % 2) .any = .raw (.int .u64 Y) ∧ 0 ≤ Y ∧ Y < 18446744073709551616 := by
      obtain ⟨q, hq⟩ : ∃ q, j % 2 = q := ⟨_, rfl⟩
      rw [hq]
      match q, (show q < 2 by omega) with
      | 0, _ => exact ⟨_, rfl, by omega, by omega⟩
      | 1, _ => exact ⟨_, rfl, by omega, by omega⟩
    have hS1 := tkSeal_pure LT N I R AD K LI IS S T Y (by omega) (by omega) (by omega) (by omega) (by omega) (by omega) (by omega) hY0 hY1
    have hS2 := rtkSeal_pure LT N I R AD K LI IS S T Y (by omega) (by omega) (by omega) (by omega) (by omega) (by omega) (by omega) hY0 hY1
    obtain ⟨x, e, hxe, hxl⟩ := tkSealA_form LT N I R AD K LI IS S T Y (by omega) (by omega) (by omega) (by omega) (by omega)
    rw [hxe] at hS1 hS2
    unfold ticketA at hS1 hS2
    simp (dsimp := false) only [go_sem, ↓reduceIte, Nat.reduceEqDiff, Nat.reduceLT, Nat.reduceAdd, Nat.reduceSub, Nat.reduceMul, Nat.reduceLeDiff, reduceCtorEq, Int.reduceNeg, Int.reduceToNat, Int.reduceLT, Int.reduceLE, Int.reduceGE, Int.reduceGT, Int.reduceEq, hj4, e2, hX, w0]
    (try refine ⟨by omega, ?_⟩)
    intro k1 hk1
    refine ACs.pure (Long_pure nn hnn.1 (by omega)) ?_
    simp (dsimp := false) only [go_sem, ↓reduceIte, Nat.reduceEqDiff, Nat.reduceLT, Nat.reduceAdd, Nat.reduceSub, Nat.reduceMul, Nat.reduceLeDiff, reduceCtorEq, Int.reduceNeg, Int.reduceToNat, Int.reduceLT, Int.reduceLE, Int.reduceGE, Int.reduceGT, Int.reduceEq, e3, hY]
    refine ⟨by omega, ?_⟩
    refine ACs.pure hS1 ?_
    simp (dsimp := false) only [go_sem, ↓reduceIte, Nat.reduceEqDiff, Nat.reduceLT, Nat.reduceAdd, Nat.reduceSub, Nat.reduceMul, Nat.reduceLeDiff, reduceCtorEq, Int.reduceNeg, Int.reduceToNat, Int.reduceLT, Int.reduceLE, Int.reduceGE, Int.reduceGT, Int.reduceEq]
    refine ACs.pure hS2 ?_
    simp (dsimp := false) only [go_sem, ↓reduceIte, Nat.reduceEqDiff, Nat.reduceLT, Nat.reduceAdd, Nat.reduceSub, Nat.reduceMul, Nat.reduceLeDiff, reduceCtorEq, Int.reduceNeg, Int.reduceToNat, Int.reduceLT, Int.reduceLE, Int.reduceGE, Int.reduceGT, Int.reduceEq, bytes_eq]
    refine AW.loopJ (M := []) (X := Nat) (fun q => ⟨118, tmL [(2, .raw (.int .u64 key)), (3, .raw (.int .u8 nn)), (4, .lst 1 (b.map byteA)), (5, .raw (.int .u16 how)), (6, .ref (.st [.raw (.bool lt), .raw (.string n), .raw (.string i), .raw (.string r), .raw (.int .i64 ad), .raw (.int .u64 k), .raw (.int .i64 li), .raw (.int .i64 is), .raw (.string s), .raw (.string t)])), (13, .ref (.st [.raw (.bool lt'), .raw (.string n'), .raw (.string i'), .raw (.string r'), .raw (.int .i64 ad'), .raw (.int .u64 k'), .raw (.int .i64 li'), .raw (.int .i64 is'), .raw (.string s'), .raw (.string t')])), (14, .raw (.int .i64 j)), (16, .raw (.int .u64 Y)), (19, .lst 1 (x.map byteA)), (21, .raw (.int .i64 q))], noOwn⟩)
      (fun q => q ≤ 3) (fun q => 3 - q) 0 (by decide) ?_ ?_
    · (refine Ghost.of ?_ (fun _ _ h => by cases h); (repeat' (first | exact all_nil | refine all_cons ?_ ?_)) <;> (first | (simp (dsimp := false) only [go_sem, ↓reduceIte, Nat.reduceEqDiff, Nat.reduceLT, Nat.reduceAdd, Nat.reduceSub, Nat.reduceMul, Nat.reduceLeDiff, reduceCtorEq, Int.reduceNeg, Int.reduceToNat, Int.reduceLT, Int.reduceLE, Int.reduceGE, Int.reduceGT, Int.reduceEq]; done) | (simp (dsimp := false) only [go_sem, ↓reduceIte, Nat.reduceEqDiff, Nat.reduceLT, Nat.reduceAdd, Nat.reduceSub, Nat.reduceMul, Nat.reduceLeDiff, reduceCtorEq, Int.reduceNeg, Int.reduceToNat, Int.reduceLT, Int.reduceLE, Int.reduceGE, Int.reduceGT, Int.reduceEq]; rfl)))
    intro q hq
    by_cases hq3 : (q : Int) < 3
    · have e4 : IntKind.i64.wrap ((q : Int) + 1) = ((q + 1 : Nat) : Int) := by rw [wrap_i64 (by omega) (by omega)]; omega
      simp (dsimp := false) only [go_sem, ↓reduceIte, Nat.reduceEqDiff, Nat.reduceLT, Nat.reduceAdd, Nat.reduceSub, Nat.reduceMul, Nat.reduceLeDiff, reduceCtorEq, Int.reduceNeg, Int.reduceToNat, Int.reduceLT, Int.reduceLE, Int.reduceGE, Int.reduceGT, Int.reduceEq, hq3]
      refine ACs.pn (Spoil_pn x how (by omega) hh.1 hh.2) ?_
      rintro _ ⟨z, rfl, hzl⟩
      obtain ⟨y, hy, hyl⟩ : ∃ y : List UInt8, [AV.lst 1 (b.map byteA), .lst 1 (x.map byteA), .lst 1 (z.map byteA)].getD q .any = .lst 1 (y.map byteA) ∧ y.length ≤ 100000 := by
        match q, (show q < 3 by omega) with
        | 0, _ => exact ⟨b, rfl, by omega⟩
        | 1, _ => exact ⟨x, rfl, by omega⟩
        | 2, _ => exact ⟨z, rfl, by omega⟩
      simp (dsimp := false) only [go_sem, ↓reduceIte, Nat.reduceEqDiff, Nat.reduceLT, Nat.reduceAdd, Nat.reduceSub, Nat.reduceMul, Nat.reduceLeDiff, reduceCtorEq, Int.reduceNeg, Int.reduceToNat, Int.reduceLT, Int.reduceLE, Int.reduceGE, Int.reduceGT, Int.reduceEq, hy]
      refine ⟨by omega, ?_⟩
      refine ACs.pn (tkOpen_pn y Y (by omega)) ?_
      intro d hd
      obtain ⟨_, _, _, _, _, _, _, _, _, _, _, rfl⟩ := hd.form
      unfold ticketA
      simp (dsimp := false) only [go_sem, ↓reduceIte, Nat.reduceEqDiff, Nat.reduceLT, Nat.reduceAdd, Nat.reduceSub, Nat.reduceMul, Nat.reduceLeDiff, reduceCtorEq, Int.reduceNeg, Int.reduceToNat, Int.reduceLT, Int.reduceLE, Int.reduceGE, Int.reduceGT, Int.reduceEq]
      intro k2 hk2
      refine ACs.pn (rtkOpen_pn y Y (by omega)) ?_
      intro d' hd'
      obtain rfl := hd'.unique hd
      unfold ticketA
      simp (dsimp := false) only [go_sem, ↓reduceIte, Nat.reduceEqDiff, Nat.reduceLT, Nat.reduceAdd, Nat.reduceSub, Nat.reduceMul, Nat.reduceLeDiff, reduceCtorEq, Int.reduceNeg, Int.reduceToNat, Int.reduceLT, Int.reduceLE, Int.reduceGE, Int.reduceGT, Int.reduceEq]
      intro k3 hk3
      have q1 := none_ne hk3
      have a1 : ∀ (own : Own) o, (own.set k3 o) k2 = own k2 := fun own o => Own.set_ne _ _ (Ne.symm q1)
      have a2 : ∀ (own : Own) o, (own.set k2 o) k3 = own k3 := fun own o => Own.set_ne _ _ q1
      simp (dsimp := false) only [go_sem, ↓reduceIte, Nat.reduceEqDiff, Nat.reduceLT, Nat.reduceAdd, Nat.reduceSub, Nat.reduceMul, Nat.reduceLeDiff, reduceCtorEq, Int.reduceNeg, Int.reduceToNat, Int.reduceLT, Int.reduceLE, Int.reduceGE, Int.reduceGT, Int.reduceEq, a1, a2, e4]
      refine ⟨q + 1, by omega, ?_, by omega⟩
      (refine Ghost.of ?_ (fun _ _ h => by cases h); (repeat' (first | exact all_nil | refine all_cons ?_ ?_)) <;> (first | (simp (dsimp := false) only [go_sem, ↓reduceIte, Nat.reduceEqDiff, Nat.reduceLT, Nat.reduceAdd, Nat.reduceSub, Nat.reduceMul, Nat.reduceLeDiff, reduceCtorEq, Int.reduceNeg, Int.reduceToNat, Int.reduceLT, Int.reduceLE, Int.reduceGE, Int.reduceGT, Int.reduceEq]; done) | (simp (dsimp := false) only [go_sem, ↓reduceIte, Nat.reduceEqDiff, Nat.reduceLT, Nat.reduceAdd, Nat.reduceSub, Nat.reduceMul, Nat.reduceLeDiff, reduceCtorEq, Int.reduceNeg, Int.reduceToNat, Int.reduceLT, Int.reduceLE, Int.reduceGE, Int.reduceGT, Int.reduceEq]; rfl)))
    · simp (dsimp := false) only [go_sem, ↓reduceIte, Nat.reduceEqDiff, Nat.reduceLT, Nat.reduceAdd, Nat.reduceSub, Nat.reduceMul, Nat.reduceLeDiff, reduceCtorEq, Int.reduceNeg, Int.reduceToNat, Int.reduceLT, Int.reduceLE, Int.reduceGE, Int.reduceGT, Int.reduceEq, hq3, e1]
      refine ⟨j + 1, by omega, ?_, by omega⟩
      (refine Ghost.of ?_ (fun _ _ h => by cases h); (repeat' (first | exact all_nil | refine all_cons ?_ ?_)) <;> (first | (simp (dsimp := false) only [go_sem, ↓reduceIte, Nat.reduceEqDiff, Nat.reduceLT, Nat.reduceAdd, Nat.reduceSub, Nat.reduceMul, Nat.reduceLeDiff, reduceCtorEq, Int.reduceNeg, Int.reduceToNat, Int.reduceLT, Int.reduceLE, Int.reduceGE, Int.reduceGT, Int.reduceEq]; done) | (simp (dsimp := false) only [go_sem, ↓reduceIte, Nat.reduceEqDiff, Nat.reduceLT, Nat.reduceAdd, Nat.reduceSub, Nat.reduceMul, Nat.reduceLeDiff, reduceCtorEq, Int.reduceNeg, Int.reduceToNat, Int.reduceLT, Int.reduceLE, Int.reduceGE, Int.reduceGT, Int.reduceEq]; rfl)))
  · simp (dsimp := false) only [go_sem, ↓reduceIte, Nat.reduceEqDiff, Nat.reduceLT, Nat.reduceAdd, Nat.reduceSub, Nat.reduceMul, Nat.reduceLeDiff, reduceCtorEq, Int.reduceNeg, Int.reduceToNat, Int.reduceLT, Int.reduceLE, Int.reduceGE, Int.reduceGT, Int.reduceEq, hj4]
end Go.Proofs.YtaokfnfaipdpdaaGreat.Fn
