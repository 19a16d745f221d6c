/- Headers and messages of a KDC, as the reference reads them. -/
import Derived.Test.YtghnigbihllnmaaGreatFn53
import Derived.Test.YtghnigbihllnmaaGreatFn51
import Derived.Test.YtghnigbihllnmaaGreatFn42
set_option linter.unusedVariables false
set_option linter.unusedSimpArgs false
namespace Go.Proofs.YtghnigbihllnmaaGreat.Fn
open Go Hl Sp Ty
set_option maxRecDepth 100000
theorem rhdRead_pure (b : List UInt8) (hn : b.length ≤ 140737488355000) : PC Tryz.prog 103 [.lst 1 (b.map byteA)] (.tup [.raw (.int .i64 (hdR b).1), .raw (.bool (hdR b).2.1), .raw (.int .i64 (hdR b).2.2)]) := by
  refine PC.of_ac ?_
  unfold hdR
  refine AC.of_body (M := []) Tryz.func103 rfl (by kernel_rfl) (Nat.le_of_ble_eq_true rfl) ?_; simp only [Tryz.results103, Tryz.ntmps103]
  by_cases h0 : (b.length : Int) < 2
  · rw [if_pos h0]
    simp (dsimp := false) only [go_sem, ↓reduceIte, Nat.reduceEqDiff, Nat.reduceLT, Nat.reduceAdd, Nat.reduceSub, Nat.reduceMul, Nat.reduceLeDiff, reduceCtorEq, Int.reduceNeg, Int.reduceToNat, Int.reduceLT, Int.reduceLE, Int.reduceGE, Int.reduceGT, Int.reduceEq, h0]
  rw [if_neg h0]
  obtain ⟨c0, e0⟩ : ∃ c, b.getD 0 0 = c := ⟨_, rfl⟩
  obtain ⟨c1, e1⟩ : ∃ c, b.getD 1 0 = c := ⟨_, rfl⟩
  have g0 : (b.map byteA).getD 0 .any = .raw (.int .u8 (c0.toNat)) := by rw [getD_byte (by omega), e0]; rfl
  have g1 : (b.map byteA).getD 1 .any = .raw (.int .u8 (c1.toNat)) := by rw [getD_byte (by omega), e1]; rfl
  rw [e0, e1]
  have l0 : 0 < (b.length : Int) := by omega
  have l1 : 1 < (b.length : Int) := by omega
  by_cases h1 : (c0.toNat : Int) = 4
  · rw [if_neg (by omega)]
    have hr : 0 ≤ (c1.toNat : Int) ∧ (c1.toNat : Int) ≤ 255 := ⟨by omega, by have := c1.toNat_lt; omega⟩
    have d0 : (c1.toNat : Int).tdiv 2 = (c1.toNat : Int) / 2 := Int.tdiv_eq_ediv_of_nonneg hr.1
    obtain ⟨q, hq⟩ : ∃ q, (c1.toNat : Int).tdiv 2 = q := ⟨_, rfl⟩
    have w1 : IntKind.u8.wrap q = q := wrap_u8_id (by omega) (by omega)
    have w2 : IntKind.i64.wrap q = q := wrap_i64 (by omega) (by omega)
    rw [hq]
    by_cases p1 : q < 1
    · have hb : kindB q = false := by unfold kindB; simp; omega
      rw [hb, if_pos rfl]
      simp (dsimp := false) only [go_sem, ↓reduceIte, Nat.reduceEqDiff, Nat.reduceLT, Nat.reduceAdd, Nat.reduceSub, Nat.reduceMul, Nat.reduceLeDiff, reduceCtorEq, Int.reduceNeg, Int.reduceToNat, Int.reduceLT, Int.reduceLE, Int.reduceGE, Int.reduceGT, Int.reduceEq, h0, h1, g0, g1, hq, w1, w2, l0, l1, p1]
    by_cases p2 : q > 10
    · have hb : kindB q = false := by unfold kindB; simp; omega
      rw [hb, if_pos rfl]
      simp (dsimp := false) only [go_sem, ↓reduceIte, Nat.reduceEqDiff, Nat.reduceLT, Nat.reduceAdd, Nat.reduceSub, Nat.reduceMul, Nat.reduceLeDiff, reduceCtorEq, Int.reduceNeg, Int.reduceToNat, Int.reduceLT, Int.reduceLE, Int.reduceGE, Int.reduceGT, Int.reduceEq, h0, h1, g0, g1, hq, w1, w2, l0, l1, p1, p2]
    have hb : kindB q = true := by unfold kindB; simp; omega
    rw [hb, if_neg (by decide)]
    simp (dsimp := false) only [go_sem, ↓reduceIte, Nat.reduceEqDiff, Nat.reduceLT, Nat.reduceAdd, Nat.reduceSub, Nat.reduceMul, Nat.reduceLeDiff, reduceCtorEq, Int.reduceNeg, Int.reduceToNat, Int.reduceLT, Int.reduceLE, Int.reduceGE, Int.reduceGT, Int.reduceEq, h0, h1, g0, g1, hq, w1, w2, l0, l1, p1, p2]
    (try refine AW.draw (M := []) [.v, .v, .v, .v, .v, .v, .v, .v, .v] mixed (by kernel_rfl) ?_)
    (try simp (dsimp := false) only [go_sem, ↓reduceIte, Nat.reduceEqDiff, Nat.reduceLT, Nat.reduceAdd, Nat.reduceSub, Nat.reduceMul, Nat.reduceLeDiff, reduceCtorEq, Int.reduceNeg, Int.reduceToNat, Int.reduceLT, Int.reduceLE, Int.reduceGE, Int.reduceGT, Int.reduceEq, h0, h1, g0, g1, hq, w1, w2, l0, l1])
  · rw [if_pos h1]
    simp (dsimp := false) only [go_sem, ↓reduceIte, Nat.reduceEqDiff, Nat.reduceLT, Nat.reduceAdd, Nat.reduceSub, Nat.reduceMul, Nat.reduceLeDiff, reduceCtorEq, Int.reduceNeg, Int.reduceToNat, Int.reduceLT, Int.reduceLE, Int.reduceGE, Int.reduceGT, Int.reduceEq, h0, h1, g0, l0]
theorem rhdIs_pure (b : List UInt8) (ks : List Int) (hn : b.length ≤ 140737488355000) (hl : ks.length ≤ 1000) : PC Tryz.prog 77 [.lst 1 (b.map byteA), .lst 1 (ks.map iA)] (.tup [.raw (.bool (hdIs b ks).1), .raw (.int .i64 (hdIs b ks).2)]) := by
  refine PC.of_ac ?_
  have hR := rhdRead_pure b hn
  unfold hdIs
  obtain ⟨⟨q, lt, e⟩, hq⟩ : ∃ q, hdR b = q := ⟨_, rfl⟩
  rw [hq] at hR ⊢
  simp only at hR ⊢
  have hL : (ks.map iA).length = ks.length := List.length_map ..
  refine AC.of_body (M := []) Tryz.func77 rfl (by kernel_rfl) (Nat.le_of_ble_eq_true rfl) ?_; simp only [Tryz.results77, Tryz.ntmps77]
  simp (dsimp := false) only [go_sem, ↓reduceIte, Nat.reduceEqDiff, Nat.reduceLT, Nat.reduceAdd, Nat.reduceSub, Nat.reduceMul, Nat.reduceLeDiff, reduceCtorEq, Int.reduceNeg, Int.reduceToNat, Int.reduceLT, Int.reduceLE, Int.reduceGE, Int.reduceGT, Int.reduceEq]
  refine ACs.pure hR ?_
  by_cases he : e = 0
  rotate_left
  · rw [if_pos he]
    simp (dsimp := false) only [go_sem, ↓reduceIte, Nat.reduceEqDiff, Nat.reduceLT, Nat.reduceAdd, Nat.reduceSub, Nat.reduceMul, Nat.reduceLeDiff, reduceCtorEq, Int.reduceNeg, Int.reduceToNat, Int.reduceLT, Int.reduceLE, Int.reduceGE, Int.reduceGT, Int.reduceEq, he]
  rw [if_neg (fun h => h he)]
  simp (dsimp := false) only [go_sem, ↓reduceIte, Nat.reduceEqDiff, Nat.reduceLT, Nat.reduceAdd, Nat.reduceSub, Nat.reduceMul, Nat.reduceLeDiff, reduceCtorEq, Int.reduceNeg, Int.reduceToNat, Int.reduceLT, Int.reduceLE, Int.reduceGE, Int.reduceGT, Int.reduceEq, he]
  refine AW.loopJ (M := []) (X := Nat) (fun i => ⟨32, tmL [(1, .lst 1 (ks.map iA)), (6, .raw (.int .i64 q)), (7, .raw (.bool lt)), (9, .raw (.int .i64 i))], noOwn⟩)
    (fun i => i ≤ ks.length ∧ ∀ j < i, ks.getD j 0 ≠ q) (fun i => ks.length - i) 0 ⟨Nat.zero_le _, fun j h => absurd h (by omega)⟩ ?_ ?_
  · (refine Ghost.of ?_ (fun _ _ h => by cases h); (repeat' (first | exact all_nil | refine all_cons ?_ ?_)) <;> (first | (simp (dsimp := false) only [go_sem, ↓reduceIte, Nat.reduceEqDiff, Nat.reduceLT, Nat.reduceAdd, Nat.reduceSub, Nat.reduceMul, Nat.reduceLeDiff, reduceCtorEq, Int.reduceNeg, Int.reduceToNat, Int.reduceLT, Int.reduceLE, Int.reduceGE, Int.reduceGT, Int.reduceEq]; done) | (simp (dsimp := false) only [go_sem, ↓reduceIte, Nat.reduceEqDiff, Nat.reduceLT, Nat.reduceAdd, Nat.reduceSub, Nat.reduceMul, Nat.reduceLeDiff, reduceCtorEq, Int.reduceNeg, Int.reduceToNat, Int.reduceLT, Int.reduceLE, Int.reduceGE, Int.reduceGT, Int.reduceEq]; rfl)))
  rintro i ⟨hi, hne⟩
  by_cases hlt : (i : Int) < (ks.map iA).length
  · have e1 : IntKind.i64.wrap ((i : Int) + 1) = ((i + 1 : Nat) : Int) := by rw [wrap_i64 (by omega) (by omega)]; omega
    have g : (ks.map iA).getD i .any = .raw (.int .i64 (ks.getD i 0)) := getD_int (by omega)
    have hmem : ks.getD i 0 ∈ ks := by
      rw [List.getD_eq_getElem?_getD, List.getElem?_eq_getElem (by omega)]
      exact List.getElem_mem _
    obtain ⟨y, hy⟩ : ∃ y, ks.getD i 0 = y := ⟨_, rfl⟩
    rw [hy] at g hmem
    by_cases hx : y = q
    · rw [if_pos (hx ▸ hmem)]
      simp (dsimp := false) only [go_sem, ↓reduceIte, Nat.reduceEqDiff, Nat.reduceLT, Nat.reduceAdd, Nat.reduceSub, Nat.reduceMul, Nat.reduceLeDiff, reduceCtorEq, Int.reduceNeg, Int.reduceToNat, Int.reduceLT, Int.reduceLE, Int.reduceGE, Int.reduceGT, Int.reduceEq, hlt, g, hx]
      (try omega)
    · simp (dsimp := false) only [go_sem, ↓reduceIte, Nat.reduceEqDiff, Nat.reduceLT, Nat.reduceAdd, Nat.reduceSub, Nat.reduceMul, Nat.reduceLeDiff, reduceCtorEq, Int.reduceNeg, Int.reduceToNat, Int.reduceLT, Int.reduceLE, Int.reduceGE, Int.reduceGT, Int.reduceEq, hlt, g, hx, e1]
      (try refine ⟨by omega, ?_⟩)
      refine ⟨i + 1, ⟨by omega, fun j hj => ?_⟩, ?_, by omega⟩
      · by_cases hji : j = i
        · rw [hji, hy]; exact hx
        · exact hne j (by omega)
      · (refine Ghost.of ?_ (fun _ _ h => by cases h); (repeat' (first | exact all_nil | refine all_cons ?_ ?_)) <;> (first | (simp (dsimp := false) only [go_sem, ↓reduceIte, Nat.reduceEqDiff, Nat.reduceLT, Nat.reduceAdd, Nat.reduceSub, Nat.reduceMul, Nat.reduceLeDiff, reduceCtorEq, Int.reduceNeg, Int.reduceToNat, Int.reduceLT, Int.reduceLE, Int.reduceGE, Int.reduceGT, Int.reduceEq]; done) | (simp (dsimp := false) only [go_sem, ↓reduceIte, Nat.reduceEqDiff, Nat.reduceLT, Nat.reduceAdd, Nat.reduceSub, Nat.reduceMul, Nat.reduceLeDiff, reduceCtorEq, Int.reduceNeg, Int.reduceToNat, Int.reduceLT, Int.reduceLE, Int.reduceGE, Int.reduceGT, Int.reduceEq]; rfl)))
  · have hm : ¬ q ∈ ks := fun h => by
      obtain ⟨j, hj, e⟩ := List.mem_iff_getElem.1 h
      refine absurd ?_ (hne j (by omega))
      rw [List.getD_eq_getElem?_getD, List.getElem?_eq_getElem hj]
      exact e
    rw [if_neg hm]
    simp (dsimp := false) only [go_sem, ↓reduceIte, Nat.reduceEqDiff, Nat.reduceLT, Nat.reduceAdd, Nat.reduceSub, Nat.reduceMul, Nat.reduceLeDiff, reduceCtorEq, Int.reduceNeg, Int.reduceToNat, Int.reduceLT, Int.reduceLE, Int.reduceGE, Int.reduceGT, Int.reduceEq, hlt]
set_option maxHeartbeats 8000000 in
theorem rreqDecode_pn (b : List UInt8) (hn : b.length ≤ 140737488355000) : PN Tryz.prog 17 [.lst 1 (b.map byteA)] (reqDec b) := by
  refine PN.of_ac ?_
  obtain ⟨⟨lt, e⟩, hI⟩ : ∃ x, hdIs b [1] = x := ⟨_, rfl⟩
  have hP := rhdIs_pure b [1] hn (by simp)
  rw [hI] at hP
  simp only [List.map_cons, List.map_nil, iA] at hP
  by_cases he : e = 0
  rotate_left
  · refine AC.of_body (M := [22]) Tryz.func17 rfl (by kernel_rfl) (Nat.le_of_ble_eq_true rfl) ?_; simp only [Tryz.results17, Tryz.ntmps17]
    simp (dsimp := false) only [go_sem, ↓reduceIte, Nat.reduceEqDiff, Nat.reduceLT, Nat.reduceAdd, Nat.reduceSub, Nat.reduceMul, Nat.reduceLeDiff, reduceCtorEq, Int.reduceNeg, Int.reduceToNat, Int.reduceLT, Int.reduceLE, Int.reduceGE, Int.reduceGT, Int.reduceEq]
    intro k1 hk1
    refine ACs.pure hP ?_
    simp (dsimp := false) only [go_sem, ↓reduceIte, Nat.reduceEqDiff, Nat.reduceLT, Nat.reduceAdd, Nat.reduceSub, Nat.reduceMul, Nat.reduceLeDiff, reduceCtorEq, Int.reduceNeg, Int.reduceToNat, Int.reduceLT, Int.reduceLE, Int.reduceGE, Int.reduceGT, Int.reduceEq, he]
    refine .inr ⟨fun lt' n' i' r' tm' li' s' t' h => ?_, by rw [reqErr, hI, if_neg he]; rfl⟩
    have := hI.symm.trans h.hd
    simp only [Prod.mk.injEq] at this
    exact he this.2
  · subst he
    have herr : reqErr b = 100 := by rw [reqErr, hI]; rfl
    have o0 : 0 ≤ ((2 : Int), false).1 ∧ ((2 : Int), false).1 ≤ b.length := ⟨by decide, hdIs_len hI⟩
    obtain ⟨⟨⟨p1_1, p1_2, p1_3⟩, s1⟩, e1⟩ : ∃ x, rPrin b (2, false) = x := ⟨_, rfl⟩
    have o1 : 0 ≤ s1.1 ∧ s1.1 ≤ b.length := by have := rPrin_ok (b := b) (s := (2, false)) o0.1 o0.2; rw [e1] at this; exact this
    have z1 := rPrin_small b (2, false)
    rw [e1] at z1
    simp only at z1
    obtain ⟨x2, e2⟩ : ∃ x, rNum b 4 lt s1 = x := ⟨_, rfl⟩
    have o2 : 0 ≤ x2.2.1 ∧ x2.2.1 ≤ b.length := by rw [← e2]; exact rNum_ok o1.1 o1.2
    obtain ⟨x3, e3⟩ : ∃ x, rNum b 1 false x2.2 = x := ⟨_, rfl⟩
    have o3 : 0 ≤ x3.2.1 ∧ x3.2.1 ≤ b.length := by rw [← e3]; exact rNum_ok o2.1 o2.2
    obtain ⟨x4, e4⟩ : ∃ x, rTxt b x3.2 = x := ⟨_, rfl⟩
    have o4 : 0 ≤ x4.2.1 ∧ x4.2.1 ≤ b.length := by rw [← e4]; exact rTxt_ok o3.1 o3.2
    have z4 : x4.1.size ≤ 39 := by rw [← e4]; exact rTxt_small _ _
    obtain ⟨x5, e5⟩ : ∃ x, rTxt b x4.2 = x := ⟨_, rfl⟩
    have o5 : 0 ≤ x5.2.1 ∧ x5.2.1 ≤ b.length := by rw [← e5]; exact rTxt_ok o4.1 o4.2
    have z5 : x5.1.size ≤ 39 := by rw [← e5]; exact rTxt_small _ _
    have hR : reqRr b lt (2, false) = ((p1_1, p1_2, p1_3), x2.1, x3.1, x4.1, x5.1, x5.2.2) := by simp only [reqRr, e1, e2, e3, e4, e5]
    have hE := rreqEncode_pure lt p1_1 p1_2 p1_3 x2.1 x3.1 x4.1 x5.1 (by omega) (by omega) (by omega) (by omega) (by omega) 
    unfold reqA reqE at hE
    have key : ∀ lt' n' i' r' tm' li' s' t', reqIs b lt' n' i' r' tm' li' s' t' → lt' = lt ∧ n' = p1_1 ∧ i' = p1_2 ∧ r' = p1_3 ∧ tm' = x2.1 ∧ li' = x3.1 ∧ s' = x4.1 ∧ t' = x5.1 ∧ x5.2.2 = false := fun lt' n' i' r' tm' li' s' t' h => by
      have hl : lt' = lt := by have := hI.symm.trans h.hd; simp only [Prod.mk.injEq] at this; exact this.1.symm
      subst hl
      have := h.rread.symm.trans hR
      simp only [Prod.mk.injEq] at this
      obtain ⟨⟨a0, b0, d0⟩, a1, a2, a3, a4, j⟩ := this
      exact ⟨rfl, a0, b0, d0, a1, a2, a3, a4, j.symm⟩
    refine AC.of_body (M := [22]) Tryz.func17 rfl (by kernel_rfl) (Nat.le_of_ble_eq_true rfl) ?_; simp only [Tryz.results17, Tryz.ntmps17]
    simp (dsimp := false) only [go_sem, ↓reduceIte, Nat.reduceEqDiff, Nat.reduceLT, Nat.reduceAdd, Nat.reduceSub, Nat.reduceMul, Nat.reduceLeDiff, reduceCtorEq, Int.reduceNeg, Int.reduceToNat, Int.reduceLT, Int.reduceLE, Int.reduceGE, Int.reduceGT, Int.reduceEq]
    intro k1 hk1
    refine ACs.pure hP ?_
    simp (dsimp := false) only [go_sem, ↓reduceIte, Nat.reduceEqDiff, Nat.reduceLT, Nat.reduceAdd, Nat.reduceSub, Nat.reduceMul, Nat.reduceLeDiff, reduceCtorEq, Int.reduceNeg, Int.reduceToNat, Int.reduceLT, Int.reduceLE, Int.reduceGE, Int.reduceGT, Int.reduceEq]
    intro k hk
    have n1 := none_ne hk
    have a1 : ∀ (own : Own) o, (own.set k1 o) k = own k := fun own o => Own.set_ne _ _ n1
    have a2 : ∀ (own : Own) o, (own.set k o) k1 = own k1 := fun own o => Own.set_ne _ _ (Ne.symm n1)
    (try simp (dsimp := false) only [go_sem, ↓reduceIte, Nat.reduceEqDiff, Nat.reduceLT, Nat.reduceAdd, Nat.reduceSub, Nat.reduceMul, Nat.reduceLeDiff, reduceCtorEq, Int.reduceNeg, Int.reduceToNat, Int.reduceLT, Int.reduceLE, Int.reduceGE, Int.reduceGT, Int.reduceEq, a1, a2])
    intro k2 hk2
    have n2 := none_ne hk2
    have hk2' := hk2
    rw [Own.set_ne _ _ n2] at hk2'
    have n12 := none_ne hk2'
    have b1 : ∀ (own : Own) o, (own.set k2 o) k = own k := fun own o => Own.set_ne _ _ (Ne.symm n2)
    have b2 : ∀ (own : Own) o, (own.set k o) k2 = own k2 := fun own o => Own.set_ne _ _ n2
    have b3 : ∀ (own : Own) o, (own.set k2 o) k1 = own k1 := fun own o => Own.set_ne _ _ (Ne.symm n12)
    have b4 : ∀ (own : Own) o, (own.set k1 o) k2 = own k2 := fun own o => Own.set_ne _ _ n12
    clear hk2 hk2' hk hk1
    refine ACs.of (RPrincipal_own b lt (2, false) k _ _ (by simp only [a1, a2, b1, b2, b3, b4, Own.set_same, rdO]) hn ?_)
    simp (dsimp := false) only [go_sem, ↓reduceIte, Nat.reduceEqDiff, Nat.reduceLT, Nat.reduceAdd, Nat.reduceSub, Nat.reduceMul, Nat.reduceLeDiff, reduceCtorEq, Int.reduceNeg, Int.reduceToNat, Int.reduceLT, Int.reduceLE, Int.reduceGE, Int.reduceGT, Int.reduceEq, e1, prinA, a1, a2, b1, b2, b3, b4]
    refine ACs.of (RNumber_own b lt s1 k _ _ (by simp only [a1, a2, b1, b2, b3, b4, Own.set_same, rdO]) o1.1 o1.2 hn ?_)
    simp (dsimp := false) only [go_sem, ↓reduceIte, Nat.reduceEqDiff, Nat.reduceLT, Nat.reduceAdd, Nat.reduceSub, Nat.reduceMul, Nat.reduceLeDiff, reduceCtorEq, Int.reduceNeg, Int.reduceToNat, Int.reduceLT, Int.reduceLE, Int.reduceGE, Int.reduceGT, Int.reduceEq, e2, a1, a2, b1, b2, b3, b4]
    refine ACs.of (ROctet_own b lt x2.2 k _ _ (by simp only [a1, a2, b1, b2, b3, b4, Own.set_same, rdO]) o2.1 o2.2 hn ?_)
    simp (dsimp := false) only [go_sem, ↓reduceIte, Nat.reduceEqDiff, Nat.reduceLT, Nat.reduceAdd, Nat.reduceSub, Nat.reduceMul, Nat.reduceLeDiff, reduceCtorEq, Int.reduceNeg, Int.reduceToNat, Int.reduceLT, Int.reduceLE, Int.reduceGE, Int.reduceGT, Int.reduceEq, e3, a1, a2, b1, b2, b3, b4]
    refine ACs.of (RText_own b lt x3.2 k _ _ (by simp only [a1, a2, b1, b2, b3, b4, Own.set_same, rdO]) hn ?_)
    simp (dsimp := false) only [go_sem, ↓reduceIte, Nat.reduceEqDiff, Nat.reduceLT, Nat.reduceAdd, Nat.reduceSub, Nat.reduceMul, Nat.reduceLeDiff, reduceCtorEq, Int.reduceNeg, Int.reduceToNat, Int.reduceLT, Int.reduceLE, Int.reduceGE, Int.reduceGT, Int.reduceEq, e4, a1, a2, b1, b2, b3, b4]
    refine ACs.of (RText_own b lt x4.2 k _ _ (by simp only [a1, a2, b1, b2, b3, b4, Own.set_same, rdO]) hn ?_)
    simp (dsimp := false) only [go_sem, ↓reduceIte, Nat.reduceEqDiff, Nat.reduceLT, Nat.reduceAdd, Nat.reduceSub, Nat.reduceMul, Nat.reduceLeDiff, reduceCtorEq, Int.reduceNeg, Int.reduceToNat, Int.reduceLT, Int.reduceLE, Int.reduceGE, Int.reduceGT, Int.reduceEq, e5, a1, a2, b1, b2, b3, b4]
    refine ACs.pure hE ?_
    (try simp (dsimp := false) only [go_sem, ↓reduceIte, Nat.reduceEqDiff, Nat.reduceLT, Nat.reduceAdd, Nat.reduceSub, Nat.reduceMul, Nat.reduceLeDiff, reduceCtorEq, Int.reduceNeg, Int.reduceToNat, Int.reduceLT, Int.reduceLE, Int.reduceGE, Int.reduceGT, Int.reduceEq, rdO, a1, a2, b1, b2, b3, b4])
    rcases Bool.eq_false_or_eq_true x5.2.2 with hb | hb
    · simp (dsimp := false) only [go_sem, ↓reduceIte, Nat.reduceEqDiff, Nat.reduceLT, Nat.reduceAdd, Nat.reduceSub, Nat.reduceMul, Nat.reduceLeDiff, reduceCtorEq, Int.reduceNeg, Int.reduceToNat, Int.reduceLT, Int.reduceLE, Int.reduceGE, Int.reduceGT, Int.reduceEq, hb, a1, a2, b1, b2, b3, b4, rdO]
      refine .inr ⟨fun lt' n' i' r' tm' li' s' t' h => ?_, by rw [herr]; rfl⟩
      rw [(key _ _ _ _ _ _ _ _ h).2.2.2.2.2.2.2.2] at hb
      cases hb
    by_cases hc : reqChk lt p1_1 p1_2 p1_3 x2.1 x3.1 x4.1 x5.1 = 0
    · simp only [hc, if_true]
      by_cases hq : reqB lt p1_1 p1_2 p1_3 x2.1 x3.1 x4.1 x5.1 = b
      · simp (dsimp := false) only [go_sem, ↓reduceIte, Nat.reduceEqDiff, Nat.reduceLT, Nat.reduceAdd, Nat.reduceSub, Nat.reduceMul, Nat.reduceLeDiff, reduceCtorEq, Int.reduceNeg, Int.reduceToNat, Int.reduceLT, Int.reduceLE, Int.reduceGE, Int.reduceGT, Int.reduceEq, hb, hc, hq, bytes_eq, a1, a2, b1, b2, b3, b4, rdO]
        exact .inl ⟨_, _, _, _, _, _, _, _, ⟨hc, hq⟩, rfl⟩
      · simp (dsimp := false) only [go_sem, ↓reduceIte, Nat.reduceEqDiff, Nat.reduceLT, Nat.reduceAdd, Nat.reduceSub, Nat.reduceMul, Nat.reduceLeDiff, reduceCtorEq, Int.reduceNeg, Int.reduceToNat, Int.reduceLT, Int.reduceLE, Int.reduceGE, Int.reduceGT, Int.reduceEq, hb, hc, hq, bytes_eq, a1, a2, b1, b2, b3, b4, rdO]
        refine .inr ⟨fun lt' n' i' r' tm' li' s' t' h => ?_, by rw [herr]; rfl⟩
        obtain ⟨rfl, rfl, rfl, rfl, rfl, rfl, rfl, rfl, _⟩ := key _ _ _ _ _ _ _ _ h
        exact hq h.2
    · simp (dsimp := false) only [go_sem, ↓reduceIte, Nat.reduceEqDiff, Nat.reduceLT, Nat.reduceAdd, Nat.reduceSub, Nat.reduceMul, Nat.reduceLeDiff, reduceCtorEq, Int.reduceNeg, Int.reduceToNat, Int.reduceLT, Int.reduceLE, Int.reduceGE, Int.reduceGT, Int.reduceEq, hb, hc, a1, a2, b1, b2, b3, b4, rdO]
      refine .inr ⟨fun lt' n' i' r' tm' li' s' t' h => ?_, by rw [herr]; rfl⟩
      obtain ⟨rfl, rfl, rfl, rfl, rfl, rfl, rfl, rfl, _⟩ := key _ _ _ _ _ _ _ _ h
      exact hc (reqOk_chk h.1)
set_option maxHeartbeats 8000000 in
theorem rrepDecode_pn (b : List UInt8) (hn : b.length ≤ 140737488355000) : PN Tryz.prog 19 [.lst 1 (b.map byteA)] (repDec b) := by
  refine PN.post ?_
  obtain ⟨⟨lt, e⟩, hI⟩ : ∃ x, hdIs b [2] = x := ⟨_, rfl⟩
  have hP := rhdIs_pure b [2] hn (by simp)
  rw [hI] at hP
  simp only [List.map_cons, List.map_nil, iA] at hP
  by_cases he : e = 0
  rotate_left
  · refine AC.of_body (M := [23]) Tryz.func19 rfl (by kernel_rfl) (Nat.le_of_ble_eq_true rfl) ?_; simp only [Tryz.results19, Tryz.ntmps19]
    simp (dsimp := false) only [go_sem, ↓reduceIte, Nat.reduceEqDiff, Nat.reduceLT, Nat.reduceAdd, Nat.reduceSub, Nat.reduceMul, Nat.reduceLeDiff, reduceCtorEq, Int.reduceNeg, Int.reduceToNat, Int.reduceLT, Int.reduceLE, Int.reduceGE, Int.reduceGT, Int.reduceEq]
    intro k1 hk1
    refine ACs.pure hP ?_
    simp (dsimp := false) only [go_sem, ↓reduceIte, Nat.reduceEqDiff, Nat.reduceLT, Nat.reduceAdd, Nat.reduceSub, Nat.reduceMul, Nat.reduceLeDiff, reduceCtorEq, Int.reduceNeg, Int.reduceToNat, Int.reduceLT, Int.reduceLE, Int.reduceGE, Int.reduceGT, Int.reduceEq, he]
    refine ⟨.tup [repZ, .raw (.int .i64 e)], _, repZ_weak, .inr ⟨fun lt' n' i' r' tm' ex' kv' x' h => ?_, by rw [repErr, hI, if_neg he]⟩⟩
    have := hI.symm.trans h.hd
    simp only [Prod.mk.injEq] at this
    exact he this.2
  · subst he
    have herr : repErr b = 100 := by rw [repErr, hI]; rfl
    have o0 : 0 ≤ ((2 : Int), false).1 ∧ ((2 : Int), false).1 ≤ b.length := ⟨by decide, hdIs_len hI⟩
    obtain ⟨⟨⟨p1_1, p1_2, p1_3⟩, s1⟩, e1⟩ : ∃ x, rPrin b (2, false) = x := ⟨_, rfl⟩
    have o1 : 0 ≤ s1.1 ∧ s1.1 ≤ b.length := by have := rPrin_ok (b := b) (s := (2, false)) o0.1 o0.2; rw [e1] at this; exact this
    have z1 := rPrin_small b (2, false)
    rw [e1] at z1
    simp only at z1
    obtain ⟨x2, e2⟩ : ∃ x, rNum b 4 lt s1 = x := ⟨_, rfl⟩
    have o2 : 0 ≤ x2.2.1 ∧ x2.2.1 ≤ b.length := by rw [← e2]; exact rNum_ok o1.1 o1.2
    obtain ⟨x3, e3⟩ : ∃ x, rNum b 1 false x2.2 = x := ⟨_, rfl⟩
    have o3 : 0 ≤ x3.2.1 ∧ x3.2.1 ≤ b.length := by rw [← e3]; exact rNum_ok o2.1 o2.2
    obtain ⟨x4, e4⟩ : ∃ x, rNum b 4 lt x3.2 = x := ⟨_, rfl⟩
    have o4 : 0 ≤ x4.2.1 ∧ x4.2.1 ≤ b.length := by rw [← e4]; exact rNum_ok o3.1 o3.2
    obtain ⟨x5, e5⟩ : ∃ x, rNum b 1 false x4.2 = x := ⟨_, rfl⟩
    have o5 : 0 ≤ x5.2.1 ∧ x5.2.1 ≤ b.length := by rw [← e5]; exact rNum_ok o4.1 o4.2
    obtain ⟨x6, e6⟩ : ∃ x, rNum b 2 lt x5.2 = x := ⟨_, rfl⟩
    have o6 : 0 ≤ x6.2.1 ∧ x6.2.1 ≤ b.length := by rw [← e6]; exact rNum_ok o5.1 o5.2
    obtain ⟨x7, e7⟩ : ∃ x, rByt b x6.1 x6.2 = x := ⟨_, rfl⟩
    have hp7 : 0 ≤ x6.1 := by rw [← e6]; exact rNum_nn _ _ _ _
    have hq7 : x6.1 ≤ 65535 := by rw [← e6]; exact rNum_le _ _ _ _ (by decide)
    have o7 : 0 ≤ x7.2.1 ∧ x7.2.1 ≤ b.length := by rw [← e7]; exact rByt_ok o6.1 o6.2 hp7
    have zl7 : x7.1.length ≤ 65535 := by rw [← e7]; exact rByt_le _ _ _ () (by omega)
    have hR : repRr b lt (2, false) = ((p1_1, p1_2, p1_3), x2.1, x3.1, x4.1, x5.1, x6.1, x7.1, x7.2.2) := by simp only [repRr, e1, e2, e3, e4, e5, e6, e7]
    have hE := rrepEncode_pure lt p1_1 p1_2 p1_3 x2.1 x4.1 x5.1 x7.1 (by omega) (by omega) (by omega) (by omega) 
    unfold repA repE at hE
    have key : ∀ lt' n' i' r' tm' ex' kv' x', repIs b lt' n' i' r' tm' ex' kv' x' → lt' = lt ∧ n' = p1_1 ∧ i' = p1_2 ∧ r' = p1_3 ∧ tm' = x2.1 ∧ ex' = x4.1 ∧ kv' = x5.1 ∧ x' = x7.1 ∧ x7.2.2 = false := fun lt' n' i' r' tm' ex' kv' x' h => by
      have hl : lt' = lt := by have := hI.symm.trans h.hd; simp only [Prod.mk.injEq] at this; exact this.1.symm
      subst hl
      have := h.rread.symm.trans hR
      simp only [Prod.mk.injEq] at this
      obtain ⟨⟨a0, b0, d0⟩, a1, a2, a3, a4, a5, a6, j⟩ := this
      exact ⟨rfl, a0, b0, d0, a1, a3, a4, a6, j.symm⟩
    refine AC.of_body (M := [23]) Tryz.func19 rfl (by kernel_rfl) (Nat.le_of_ble_eq_true rfl) ?_; simp only [Tryz.results19, Tryz.ntmps19]
    simp (dsimp := false) only [go_sem, ↓reduceIte, Nat.reduceEqDiff, Nat.reduceLT, Nat.reduceAdd, Nat.reduceSub, Nat.reduceMul, Nat.reduceLeDiff, reduceCtorEq, Int.reduceNeg, Int.reduceToNat, Int.reduceLT, Int.reduceLE, Int.reduceGE, Int.reduceGT, Int.reduceEq]
    intro k1 hk1
    refine ACs.pure hP ?_
    simp (dsimp := false) only [go_sem, ↓reduceIte, Nat.reduceEqDiff, Nat.reduceLT, Nat.reduceAdd, Nat.reduceSub, Nat.reduceMul, Nat.reduceLeDiff, reduceCtorEq, Int.reduceNeg, Int.reduceToNat, Int.reduceLT, Int.reduceLE, Int.reduceGE, Int.reduceGT, Int.reduceEq]
    intro k hk
    have n1 := none_ne hk
    have a1 : ∀ (own : Own) o, (own.set k1 o) k = own k := fun own o => Own.set_ne _ _ n1
    have a2 : ∀ (own : Own) o, (own.set k o) k1 = own k1 := fun own o => Own.set_ne _ _ (Ne.symm n1)
    (try simp (dsimp := false) only [go_sem, ↓reduceIte, Nat.reduceEqDiff, Nat.reduceLT, Nat.reduceAdd, Nat.reduceSub, Nat.reduceMul, Nat.reduceLeDiff, reduceCtorEq, Int.reduceNeg, Int.reduceToNat, Int.reduceLT, Int.reduceLE, Int.reduceGE, Int.reduceGT, Int.reduceEq, a1, a2])
    intro k2 hk2
    have n2 := none_ne hk2
    have hk2' := hk2
    rw [Own.set_ne _ _ n2] at hk2'
    have n12 := none_ne hk2'
    have b1 : ∀ (own : Own) o, (own.set k2 o) k = own k := fun own o => Own.set_ne _ _ (Ne.symm n2)
    have b2 : ∀ (own : Own) o, (own.set k o) k2 = own k2 := fun own o => Own.set_ne _ _ n2
    have b3 : ∀ (own : Own) o, (own.set k2 o) k1 = own k1 := fun own o => Own.set_ne _ _ (Ne.symm n12)
    have b4 : ∀ (own : Own) o, (own.set k1 o) k2 = own k2 := fun own o => Own.set_ne _ _ n12
    clear hk2 hk2' hk hk1
    refine ACs.of (RPrincipal_own b lt (2, false) k _ _ (by simp only [a1, a2, b1, b2, b3, b4, Own.set_same, rdO]) hn ?_)
    simp (dsimp := false) only [go_sem, ↓reduceIte, Nat.reduceEqDiff, Nat.reduceLT, Nat.reduceAdd, Nat.reduceSub, Nat.reduceMul, Nat.reduceLeDiff, reduceCtorEq, Int.reduceNeg, Int.reduceToNat, Int.reduceLT, Int.reduceLE, Int.reduceGE, Int.reduceGT, Int.reduceEq, e1, prinA, a1, a2, b1, b2, b3, b4]
    refine ACs.of (RNumber_own b lt s1 k _ _ (by simp only [a1, a2, b1, b2, b3, b4, Own.set_same, rdO]) o1.1 o1.2 hn ?_)
    simp (dsimp := false) only [go_sem, ↓reduceIte, Nat.reduceEqDiff, Nat.reduceLT, Nat.reduceAdd, Nat.reduceSub, Nat.reduceMul, Nat.reduceLeDiff, reduceCtorEq, Int.reduceNeg, Int.reduceToNat, Int.reduceLT, Int.reduceLE, Int.reduceGE, Int.reduceGT, Int.reduceEq, e2, a1, a2, b1, b2, b3, b4]
    refine ACs.of (ROctet_own b lt x2.2 k _ _ (by simp only [a1, a2, b1, b2, b3, b4, Own.set_same, rdO]) o2.1 o2.2 hn ?_)
    simp (dsimp := false) only [go_sem, ↓reduceIte, Nat.reduceEqDiff, Nat.reduceLT, Nat.reduceAdd, Nat.reduceSub, Nat.reduceMul, Nat.reduceLeDiff, reduceCtorEq, Int.reduceNeg, Int.reduceToNat, Int.reduceLT, Int.reduceLE, Int.reduceGE, Int.reduceGT, Int.reduceEq, e3, a1, a2, b1, b2, b3, b4]
    refine ACs.of (RNumber_own b lt x3.2 k _ _ (by simp only [a1, a2, b1, b2, b3, b4, Own.set_same, rdO]) o3.1 o3.2 hn ?_)
    simp (dsimp := false) only [go_sem, ↓reduceIte, Nat.reduceEqDiff, Nat.reduceLT, Nat.reduceAdd, Nat.reduceSub, Nat.reduceMul, Nat.reduceLeDiff, reduceCtorEq, Int.reduceNeg, Int.reduceToNat, Int.reduceLT, Int.reduceLE, Int.reduceGE, Int.reduceGT, Int.reduceEq, e4, a1, a2, b1, b2, b3, b4]
    refine ACs.of (ROctet_own b lt x4.2 k _ _ (by simp only [a1, a2, b1, b2, b3, b4, Own.set_same, rdO]) o4.1 o4.2 hn ?_)
    simp (dsimp := false) only [go_sem, ↓reduceIte, Nat.reduceEqDiff, Nat.reduceLT, Nat.reduceAdd, Nat.reduceSub, Nat.reduceMul, Nat.reduceLeDiff, reduceCtorEq, Int.reduceNeg, Int.reduceToNat, Int.reduceLT, Int.reduceLE, Int.reduceGE, Int.reduceGT, Int.reduceEq, e5, a1, a2, b1, b2, b3, b4]
    refine ACs.of (RShort_own b lt x5.2 k _ _ (by simp only [a1, a2, b1, b2, b3, b4, Own.set_same, rdO]) o5.1 o5.2 hn ?_)
    simp (dsimp := false) only [go_sem, ↓reduceIte, Nat.reduceEqDiff, Nat.reduceLT, Nat.reduceAdd, Nat.reduceSub, Nat.reduceMul, Nat.reduceLeDiff, reduceCtorEq, Int.reduceNeg, Int.reduceToNat, Int.reduceLT, Int.reduceLE, Int.reduceGE, Int.reduceGT, Int.reduceEq, e6, a1, a2, b1, b2, b3, b4]
    refine ACs.of (RBytes_own b x6.1 lt x6.2 k _ _ (by simp only [a1, a2, b1, b2, b3, b4, Own.set_same, rdO]) o6.1 o6.2 hp7 (by omega) hn ?_)
    simp (dsimp := false) only [go_sem, ↓reduceIte, Nat.reduceEqDiff, Nat.reduceLT, Nat.reduceAdd, Nat.reduceSub, Nat.reduceMul, Nat.reduceLeDiff, reduceCtorEq, Int.reduceNeg, Int.reduceToNat, Int.reduceLT, Int.reduceLE, Int.reduceGE, Int.reduceGT, Int.reduceEq, e7, a1, a2, b1, b2, b3, b4]
    refine ACs.pure hE ?_
    (try simp (dsimp := false) only [go_sem, ↓reduceIte, Nat.reduceEqDiff, Nat.reduceLT, Nat.reduceAdd, Nat.reduceSub, Nat.reduceMul, Nat.reduceLeDiff, reduceCtorEq, Int.reduceNeg, Int.reduceToNat, Int.reduceLT, Int.reduceLE, Int.reduceGE, Int.reduceGT, Int.reduceEq, rdO, a1, a2, b1, b2, b3, b4])
    rcases Bool.eq_false_or_eq_true x7.2.2 with hb | hb
    · simp (dsimp := false) only [go_sem, ↓reduceIte, Nat.reduceEqDiff, Nat.reduceLT, Nat.reduceAdd, Nat.reduceSub, Nat.reduceMul, Nat.reduceLeDiff, reduceCtorEq, Int.reduceNeg, Int.reduceToNat, Int.reduceLT, Int.reduceLE, Int.reduceGE, Int.reduceGT, Int.reduceEq, hb, a1, a2, b1, b2, b3, b4, rdO]
      refine ⟨.tup [repZ, .raw (.int .i64 100)], _, repZ_weak, .inr ⟨fun lt' n' i' r' tm' ex' kv' x' h => ?_, by rw [herr]⟩⟩
      rw [(key _ _ _ _ _ _ _ _ h).2.2.2.2.2.2.2.2] at hb
      cases hb
    by_cases hc : repChk lt p1_1 p1_2 p1_3 x2.1 x4.1 x5.1 x7.1 = 0
    · simp only [hc, if_true]
      by_cases hq : repB lt p1_1 p1_2 p1_3 x2.1 x4.1 x5.1 x7.1 = b
      · simp (dsimp := false) only [go_sem, ↓reduceIte, Nat.reduceEqDiff, Nat.reduceLT, Nat.reduceAdd, Nat.reduceSub, Nat.reduceMul, Nat.reduceLeDiff, reduceCtorEq, Int.reduceNeg, Int.reduceToNat, Int.reduceLT, Int.reduceLE, Int.reduceGE, Int.reduceGT, Int.reduceEq, hb, hc, hq, bytes_eq, a1, a2, b1, b2, b3, b4, rdO]
        exact ⟨_, _, Weak1.refl _ _, .inl ⟨_, _, _, _, _, _, _, _, ⟨hc, hq⟩, rfl⟩⟩
      · simp (dsimp := false) only [go_sem, ↓reduceIte, Nat.reduceEqDiff, Nat.reduceLT, Nat.reduceAdd, Nat.reduceSub, Nat.reduceMul, Nat.reduceLeDiff, reduceCtorEq, Int.reduceNeg, Int.reduceToNat, Int.reduceLT, Int.reduceLE, Int.reduceGE, Int.reduceGT, Int.reduceEq, hb, hc, hq, bytes_eq, a1, a2, b1, b2, b3, b4, rdO]
        refine ⟨.tup [repZ, .raw (.int .i64 100)], _, repZ_weak, .inr ⟨fun lt' n' i' r' tm' ex' kv' x' h => ?_, by rw [herr]⟩⟩
        obtain ⟨rfl, rfl, rfl, rfl, rfl, rfl, rfl, rfl, _⟩ := key _ _ _ _ _ _ _ _ h
        exact hq h.2
    · simp (dsimp := false) only [go_sem, ↓reduceIte, Nat.reduceEqDiff, Nat.reduceLT, Nat.reduceAdd, Nat.reduceSub, Nat.reduceMul, Nat.reduceLeDiff, reduceCtorEq, Int.reduceNeg, Int.reduceToNat, Int.reduceLT, Int.reduceLE, Int.reduceGE, Int.reduceGT, Int.reduceEq, hb, hc, a1, a2, b1, b2, b3, b4, rdO]
      refine ⟨.tup [repZ, .raw (.int .i64 100)], _, repZ_weak, .inr ⟨fun lt' n' i' r' tm' ex' kv' x' h => ?_, by rw [herr]⟩⟩
      obtain ⟨rfl, rfl, rfl, rfl, rfl, rfl, rfl, rfl, _⟩ := key _ _ _ _ _ _ _ _ h
      exact hc (repOk_chk h.1)
set_option maxHeartbeats 8000000 in
theorem rerrDecode_pn (b : List UInt8) (hn : b.length ≤ 140737488355000) : PN Tryz.prog 25 [.lst 1 (b.map byteA)] (errDec b) := by
  refine PN.of_ac ?_
  obtain ⟨⟨lt, e⟩, hI⟩ : ∃ x, hdIs b [5] = x := ⟨_, rfl⟩
  have hP := rhdIs_pure b [5] hn (by simp)
  rw [hI] at hP
  simp only [List.map_cons, List.map_nil, iA] at hP
  by_cases he : e = 0
  rotate_left
  · refine AC.of_body (M := [22]) Tryz.func25 rfl (by kernel_rfl) (Nat.le_of_ble_eq_true rfl) ?_; simp only [Tryz.results25, Tryz.ntmps25]
    simp (dsimp := false) only [go_sem, ↓reduceIte, Nat.reduceEqDiff, Nat.reduceLT, Nat.reduceAdd, Nat.reduceSub, Nat.reduceMul, Nat.reduceLeDiff, reduceCtorEq, Int.reduceNeg, Int.reduceToNat, Int.reduceLT, Int.reduceLE, Int.reduceGE, Int.reduceGT, Int.reduceEq]
    intro k1 hk1
    refine ACs.pure hP ?_
    simp (dsimp := false) only [go_sem, ↓reduceIte, Nat.reduceEqDiff, Nat.reduceLT, Nat.reduceAdd, Nat.reduceSub, Nat.reduceMul, Nat.reduceLeDiff, reduceCtorEq, Int.reduceNeg, Int.reduceToNat, Int.reduceLT, Int.reduceLE, Int.reduceGE, Int.reduceGT, Int.reduceEq, he]
    refine .inr ⟨fun lt' n' i' r' tm' cd' s' h => ?_, by rw [errErr, hI, if_neg he]; rfl⟩
    have := hI.symm.trans h.hd
    simp only [Prod.mk.injEq] at this
    exact he this.2
  · subst he
    have herr : errErr b = 100 := by rw [errErr, hI]; rfl
    have o0 : 0 ≤ ((2 : Int), false).1 ∧ ((2 : Int), false).1 ≤ b.length := ⟨by decide, hdIs_len hI⟩
    obtain ⟨⟨⟨p1_1, p1_2, p1_3⟩, s1⟩, e1⟩ : ∃ x, rPrin b (2, false) = x := ⟨_, rfl⟩
    have o1 : 0 ≤ s1.1 ∧ s1.1 ≤ b.length := by have := rPrin_ok (b := b) (s := (2, false)) o0.1 o0.2; rw [e1] at this; exact this
    have z1 := rPrin_small b (2, false)
    rw [e1] at z1
    simp only at z1
    obtain ⟨x2, e2⟩ : ∃ x, rNum b 4 lt s1 = x := ⟨_, rfl⟩
    have o2 : 0 ≤ x2.2.1 ∧ x2.2.1 ≤ b.length := by rw [← e2]; exact rNum_ok o1.1 o1.2
    obtain ⟨x3, e3⟩ : ∃ x, rNum b 4 lt x2.2 = x := ⟨_, rfl⟩
    have o3 : 0 ≤ x3.2.1 ∧ x3.2.1 ≤ b.length := by rw [← e3]; exact rNum_ok o2.1 o2.2
    obtain ⟨x4, e4⟩ : ∃ x, rTxt b x3.2 = x := ⟨_, rfl⟩
    have o4 : 0 ≤ x4.2.1 ∧ x4.2.1 ≤ b.length := by rw [← e4]; exact rTxt_ok o3.1 o3.2
    have z4 : x4.1.size ≤ 39 := by rw [← e4]; exact rTxt_small _ _
    have hR : errRr b lt (2, false) = ((p1_1, p1_2, p1_3), x2.1, x3.1, x4.1, x4.2.2) := by simp only [errRr, e1, e2, e3, e4]
    have hE := rerrEncode_pure lt p1_1 p1_2 p1_3 x2.1 x3.1 x4.1 (by omega) (by omega) (by omega) (by omega) 
    unfold errA errE at hE
    have key : ∀ lt' n' i' r' tm' cd' s', errIs b lt' n' i' r' tm' cd' s' → lt' = lt ∧ n' = p1_1 ∧ i' = p1_2 ∧ r' = p1_3 ∧ tm' = x2.1 ∧ cd' = x3.1 ∧ s' = x4.1 ∧ x4.2.2 = false := fun lt' n' i' r' tm' cd' s' h => by
      have hl : lt' = lt := by have := hI.symm.trans h.hd; simp only [Prod.mk.injEq] at this; exact this.1.symm
      subst hl
      have := h.rread.symm.trans hR
      simp only [Prod.mk.injEq] at this
      obtain ⟨⟨a0, b0, d0⟩, a1, a2, a3, j⟩ := this
      exact ⟨rfl, a0, b0, d0, a1, a2, a3, j.symm⟩
    refine AC.of_body (M := [22]) Tryz.func25 rfl (by kernel_rfl) (Nat.le_of_ble_eq_true rfl) ?_; simp only [Tryz.results25, Tryz.ntmps25]
    simp (dsimp := false) only [go_sem, ↓reduceIte, Nat.reduceEqDiff, Nat.reduceLT, Nat.reduceAdd, Nat.reduceSub, Nat.reduceMul, Nat.reduceLeDiff, reduceCtorEq, Int.reduceNeg, Int.reduceToNat, Int.reduceLT, Int.reduceLE, Int.reduceGE, Int.reduceGT, Int.reduceEq]
    intro k1 hk1
    refine ACs.pure hP ?_
    simp (dsimp := false) only [go_sem, ↓reduceIte, Nat.reduceEqDiff, Nat.reduceLT, Nat.reduceAdd, Nat.reduceSub, Nat.reduceMul, Nat.reduceLeDiff, reduceCtorEq, Int.reduceNeg, Int.reduceToNat, Int.reduceLT, Int.reduceLE, Int.reduceGE, Int.reduceGT, Int.reduceEq]
    intro k hk
    have n1 := none_ne hk
    have a1 : ∀ (own : Own) o, (own.set k1 o) k = own k := fun own o => Own.set_ne _ _ n1
    have a2 : ∀ (own : Own) o, (own.set k o) k1 = own k1 := fun own o => Own.set_ne _ _ (Ne.symm n1)
    (try simp (dsimp := false) only [go_sem, ↓reduceIte, Nat.reduceEqDiff, Nat.reduceLT, Nat.reduceAdd, Nat.reduceSub, Nat.reduceMul, Nat.reduceLeDiff, reduceCtorEq, Int.reduceNeg, Int.reduceToNat, Int.reduceLT, Int.reduceLE, Int.reduceGE, Int.reduceGT, Int.reduceEq, a1, a2])
    intro k2 hk2
    have n2 := none_ne hk2
    have hk2' := hk2
    rw [Own.set_ne _ _ n2] at hk2'
    have n12 := none_ne hk2'
    have b1 : ∀ (own : Own) o, (own.set k2 o) k = own k := fun own o => Own.set_ne _ _ (Ne.symm n2)
    have b2 : ∀ (own : Own) o, (own.set k o) k2 = own k2 := fun own o => Own.set_ne _ _ n2
    have b3 : ∀ (own : Own) o, (own.set k2 o) k1 = own k1 := fun own o => Own.set_ne _ _ (Ne.symm n12)
    have b4 : ∀ (own : Own) o, (own.set k1 o) k2 = own k2 := fun own o => Own.set_ne _ _ n12
    clear hk2 hk2' hk hk1
    refine ACs.of (RPrincipal_own b lt (2, false) k _ _ (by simp only [a1, a2, b1, b2, b3, b4, Own.set_same, rdO]) hn ?_)
    simp (dsimp := false) only [go_sem, ↓reduceIte, Nat.reduceEqDiff, Nat.reduceLT, Nat.reduceAdd, Nat.reduceSub, Nat.reduceMul, Nat.reduceLeDiff, reduceCtorEq, Int.reduceNeg, Int.reduceToNat, Int.reduceLT, Int.reduceLE, Int.reduceGE, Int.reduceGT, Int.reduceEq, e1, prinA, a1, a2, b1, b2, b3, b4]
    refine ACs.of (RNumber_own b lt s1 k _ _ (by simp only [a1, a2, b1, b2, b3, b4, Own.set_same, rdO]) o1.1 o1.2 hn ?_)
    simp (dsimp := false) only [go_sem, ↓reduceIte, Nat.reduceEqDiff, Nat.reduceLT, Nat.reduceAdd, Nat.reduceSub, Nat.reduceMul, Nat.reduceLeDiff, reduceCtorEq, Int.reduceNeg, Int.reduceToNat, Int.reduceLT, Int.reduceLE, Int.reduceGE, Int.reduceGT, Int.reduceEq, e2, a1, a2, b1, b2, b3, b4]
    refine ACs.of (RNumber_own b lt x2.2 k _ _ (by simp only [a1, a2, b1, b2, b3, b4, Own.set_same, rdO]) o2.1 o2.2 hn ?_)
    simp (dsimp := false) only [go_sem, ↓reduceIte, Nat.reduceEqDiff, Nat.reduceLT, Nat.reduceAdd, Nat.reduceSub, Nat.reduceMul, Nat.reduceLeDiff, reduceCtorEq, Int.reduceNeg, Int.reduceToNat, Int.reduceLT, Int.reduceLE, Int.reduceGE, Int.reduceGT, Int.reduceEq, e3, a1, a2, b1, b2, b3, b4]
    refine ACs.of (RText_own b lt x3.2 k _ _ (by simp only [a1, a2, b1, b2, b3, b4, Own.set_same, rdO]) hn ?_)
    simp (dsimp := false) only [go_sem, ↓reduceIte, Nat.reduceEqDiff, Nat.reduceLT, Nat.reduceAdd, Nat.reduceSub, Nat.reduceMul, Nat.reduceLeDiff, reduceCtorEq, Int.reduceNeg, Int.reduceToNat, Int.reduceLT, Int.reduceLE, Int.reduceGE, Int.reduceGT, Int.reduceEq, e4, a1, a2, b1, b2, b3, b4]
    refine ACs.pure hE ?_
    (try simp (dsimp := false) only [go_sem, ↓reduceIte, Nat.reduceEqDiff, Nat.reduceLT, Nat.reduceAdd, Nat.reduceSub, Nat.reduceMul, Nat.reduceLeDiff, reduceCtorEq, Int.reduceNeg, Int.reduceToNat, Int.reduceLT, Int.reduceLE, Int.reduceGE, Int.reduceGT, Int.reduceEq, rdO, a1, a2, b1, b2, b3, b4])
    rcases Bool.eq_false_or_eq_true x4.2.2 with hb | hb
    · simp (dsimp := false) only [go_sem, ↓reduceIte, Nat.reduceEqDiff, Nat.reduceLT, Nat.reduceAdd, Nat.reduceSub, Nat.reduceMul, Nat.reduceLeDiff, reduceCtorEq, Int.reduceNeg, Int.reduceToNat, Int.reduceLT, Int.reduceLE, Int.reduceGE, Int.reduceGT, Int.reduceEq, hb, a1, a2, b1, b2, b3, b4, rdO]
      refine .inr ⟨fun lt' n' i' r' tm' cd' s' h => ?_, by rw [herr]; rfl⟩
      rw [(key _ _ _ _ _ _ _ h).2.2.2.2.2.2.2] at hb
      cases hb
    by_cases hc : errChk lt p1_1 p1_2 p1_3 x2.1 x3.1 x4.1 = 0
    · simp only [hc, if_true]
      by_cases hq : errB lt p1_1 p1_2 p1_3 x2.1 x3.1 x4.1 = b
      · simp (dsimp := false) only [go_sem, ↓reduceIte, Nat.reduceEqDiff, Nat.reduceLT, Nat.reduceAdd, Nat.reduceSub, Nat.reduceMul, Nat.reduceLeDiff, reduceCtorEq, Int.reduceNeg, Int.reduceToNat, Int.reduceLT, Int.reduceLE, Int.reduceGE, Int.reduceGT, Int.reduceEq, hb, hc, hq, bytes_eq, a1, a2, b1, b2, b3, b4, rdO]
        exact .inl ⟨_, _, _, _, _, _, _, ⟨hc, hq⟩, rfl⟩
      · simp (dsimp := false) only [go_sem, ↓reduceIte, Nat.reduceEqDiff, Nat.reduceLT, Nat.reduceAdd, Nat.reduceSub, Nat.reduceMul, Nat.reduceLeDiff, reduceCtorEq, Int.reduceNeg, Int.reduceToNat, Int.reduceLT, Int.reduceLE, Int.reduceGE, Int.reduceGT, Int.reduceEq, hb, hc, hq, bytes_eq, a1, a2, b1, b2, b3, b4, rdO]
        refine .inr ⟨fun lt' n' i' r' tm' cd' s' h => ?_, by rw [herr]; rfl⟩
        obtain ⟨rfl, rfl, rfl, rfl, rfl, rfl, rfl, _⟩ := key _ _ _ _ _ _ _ h
        exact hq h.2
    · simp (dsimp := false) only [go_sem, ↓reduceIte, Nat.reduceEqDiff, Nat.reduceLT, Nat.reduceAdd, Nat.reduceSub, Nat.reduceMul, Nat.reduceLeDiff, reduceCtorEq, Int.reduceNeg, Int.reduceToNat, Int.reduceLT, Int.reduceLE, Int.reduceGE, Int.reduceGT, Int.reduceEq, hb, hc, a1, a2, b1, b2, b3, b4, rdO]
      refine .inr ⟨fun lt' n' i' r' tm' cd' s' h => ?_, by rw [herr]; rfl⟩
      obtain ⟨rfl, rfl, rfl, rfl, rfl, rfl, rfl, _⟩ := key _ _ _ _ _ _ _ h
      exact hc (errOk_chk h.1)
set_option maxHeartbeats 8000000 in
theorem rprtDecode_pn (b : List UInt8) (lt : Bool) (hn : b.length ≤ 140737488355000) : PN Tryz.prog 22 [.lst 1 (b.map byteA), .raw (.bool lt)] (prtDec b lt) := by
  refine PN.post ?_
  obtain ⟨x0, ex⟩ : ∃ x, rNum b 1 false (0, false) = x := ⟨_, rfl⟩
  have hx : 0 < b.length → x0.2 = (1, false) := fun hp => by
    cases b with
    | nil => simp at hp
    | cons c rest =>
      have := rNum_one [] rest c
      rw [show ([] : List UInt8) ++ (c :: rest) = c :: rest from rfl, show (([] : List UInt8).length : Int) = 0 from rfl, ex] at this
      rw [this]
      rfl
  have hrd : ∀ {k : Int} {n : ByteArray} {i : ByteArray} {r : ByteArray} {li : Int} {kv : Int} {x : List UInt8} {tm : Int}, prtIs b lt k n i r li kv x tm → prtRr b lt x0.2 = (k, (n, i, r), li, kv, (x.length : Int), x, tm, false) := fun h => by
    rw [hx h.flag.2]
    exact h.rread
  have o0 : 0 ≤ x0.2.1 ∧ x0.2.1 ≤ b.length := by rw [← ex]; exact rNum_ok (Int.le_refl _) (by simp)
  obtain ⟨x1, e1⟩ : ∃ x, rByt b 8 x0.2 = x := ⟨_, rfl⟩
  obtain ⟨kv1, ek1⟩ : ∃ x, keyR x1.1 = x := ⟨_, rfl⟩
  have o1 : 0 ≤ x1.2.1 ∧ x1.2.1 ≤ b.length := by rw [← e1]; exact rByt_ok o0.1 o0.2 (by decide)
  have zk1 : 0 ≤ kv1.1 ∧ kv1.1 < 18446744073709551616 := by rw [← ek1]; exact keyR_range _
  have zb1 : x1.1.length ≤ 140737488355000 := by rw [← e1]; exact rByt_len hn
  obtain ⟨⟨⟨p2_1, p2_2, p2_3⟩, s2⟩, e2⟩ : ∃ x, rPrin b x1.2 = x := ⟨_, rfl⟩
  have o2 : 0 ≤ s2.1 ∧ s2.1 ≤ b.length := by have := rPrin_ok (b := b) (s := x1.2) o1.1 o1.2; rw [e2] at this; exact this
  have z2 := rPrin_small b x1.2
  rw [e2] at z2
  simp only at z2
  obtain ⟨x3, e3⟩ : ∃ x, rNum b 1 false s2 = x := ⟨_, rfl⟩
  have o3 : 0 ≤ x3.2.1 ∧ x3.2.1 ≤ b.length := by rw [← e3]; exact rNum_ok o2.1 o2.2
  obtain ⟨x4, e4⟩ : ∃ x, rNum b 1 false x3.2 = x := ⟨_, rfl⟩
  have o4 : 0 ≤ x4.2.1 ∧ x4.2.1 ≤ b.length := by rw [← e4]; exact rNum_ok o3.1 o3.2
  obtain ⟨x5, e5⟩ : ∃ x, rNum b 1 false x4.2 = x := ⟨_, rfl⟩
  have o5 : 0 ≤ x5.2.1 ∧ x5.2.1 ≤ b.length := by rw [← e5]; exact rNum_ok o4.1 o4.2
  obtain ⟨x6, e6⟩ : ∃ x, rByt b x5.1 x5.2 = x := ⟨_, rfl⟩
  have hp6 : 0 ≤ x5.1 := by rw [← e5]; exact rNum_nn _ _ _ _
  have hq6 : x5.1 ≤ 65535 := by rw [← e5]; exact rNum_le _ _ _ _ (by decide)
  have o6 : 0 ≤ x6.2.1 ∧ x6.2.1 ≤ b.length := by rw [← e6]; exact rByt_ok o5.1 o5.2 hp6
  have zl6 : x6.1.length ≤ 65535 := by rw [← e6]; exact rByt_le _ _ _ () (by omega)
  obtain ⟨x7, e7⟩ : ∃ x, rNum b 4 lt x6.2 = x := ⟨_, rfl⟩
  have o7 : 0 ≤ x7.2.1 ∧ x7.2.1 ≤ b.length := by rw [← e7]; exact rNum_ok o6.1 o6.2
  have hR : prtRr b lt x0.2 = (kv1.1, (p2_1, p2_2, p2_3), x3.1, x4.1, x5.1, x6.1, x7.1, x7.2.2) := by simp only [prtRr, rKey, ek1, e1, e2, e3, e4, e5, e6, e7]
  have hE := rprtEncode_pure lt kv1.1 p2_1 p2_2 p2_3 x3.1 x4.1 x6.1 x7.1 (by omega) (by omega) (by omega) (by omega) zk1.1 zk1.2
  unfold prtA prtE at hE
  have key : ∀ k' n' i' r' li' kv' x' tm', prtIs b lt k' n' i' r' li' kv' x' tm' → k' = kv1.1 ∧ n' = p2_1 ∧ i' = p2_2 ∧ r' = p2_3 ∧ li' = x3.1 ∧ kv' = x4.1 ∧ x' = x6.1 ∧ tm' = x7.1 ∧ x7.2.2 = false := fun k' n' i' r' li' kv' x' tm' h => by
    have := (hrd h).symm.trans hR
    simp only [Prod.mk.injEq] at this
    obtain ⟨a0, ⟨a1, b1, d1⟩, a2, a3, a4, a5, a6, j⟩ := this
    exact ⟨a0, a1, b1, d1, a2, a3, a5, a6, j.symm⟩
  refine AC.of_body (M := [14]) Tryz.func22 rfl (by kernel_rfl) (Nat.le_of_ble_eq_true rfl) ?_; simp only [Tryz.results22, Tryz.ntmps22]
  simp (dsimp := false) only [go_sem, ↓reduceIte, Nat.reduceEqDiff, Nat.reduceLT, Nat.reduceAdd, Nat.reduceSub, Nat.reduceMul, Nat.reduceLeDiff, reduceCtorEq, Int.reduceNeg, Int.reduceToNat, Int.reduceLT, Int.reduceLE, Int.reduceGE, Int.reduceGT, Int.reduceEq]
  intro k1 hk1 k hk
  have n1 := none_ne hk
  have a1 : ∀ (own : Own) o, (own.set k1 o) k = own k := fun own o => Own.set_ne _ _ n1
  have a2 : ∀ (own : Own) o, (own.set k o) k1 = own k1 := fun own o => Own.set_ne _ _ (Ne.symm n1)
  refine ACs.of (ROctet_own b lt (0, false) k _ _ (Own.set_same _ _ _) (Int.le_refl _) (by simp) hn ?_)
  simp (dsimp := false) only [go_sem, ↓reduceIte, Nat.reduceEqDiff, Nat.reduceLT, Nat.reduceAdd, Nat.reduceSub, Nat.reduceMul, Nat.reduceLeDiff, reduceCtorEq, Int.reduceNeg, Int.reduceToNat, Int.reduceLT, Int.reduceLE, Int.reduceGE, Int.reduceGT, Int.reduceEq, ex, rdO, a1, a2]
  intro k2 hk2
  have n2 := none_ne hk2
  have hk2' := hk2
  rw [Own.set_ne _ _ n2] at hk2'
  have n12 := none_ne hk2'
  have b1 : ∀ (own : Own) o, (own.set k2 o) k = own k := fun own o => Own.set_ne _ _ (Ne.symm n2)
  have b2 : ∀ (own : Own) o, (own.set k o) k2 = own k2 := fun own o => Own.set_ne _ _ n2
  have b3 : ∀ (own : Own) o, (own.set k2 o) k1 = own k1 := fun own o => Own.set_ne _ _ (Ne.symm n12)
  have b4 : ∀ (own : Own) o, (own.set k1 o) k2 = own k2 := fun own o => Own.set_ne _ _ n12
  clear hk2 hk2' hk hk1
  refine ACs.of (RBytes_own b 8 lt x0.2 k _ _ (by simp only [a1, a2, b1, b2, b3, b4, Own.set_same, rdO]) o0.1 o0.2 (by decide) (by decide) hn ?_)
  simp (dsimp := false) only [go_sem, ↓reduceIte, Nat.reduceEqDiff, Nat.reduceLT, Nat.reduceAdd, Nat.reduceSub, Nat.reduceMul, Nat.reduceLeDiff, reduceCtorEq, Int.reduceNeg, Int.reduceToNat, Int.reduceLT, Int.reduceLE, Int.reduceGE, Int.reduceGT, Int.reduceEq, e1, a1, a2, b1, b2, b3, b4]
  refine ACs.pure (by have := rkeyRead_pure x1.1 zb1; rw [ek1] at this; exact this) ?_
  simp (dsimp := false) only [go_sem, ↓reduceIte, Nat.reduceEqDiff, Nat.reduceLT, Nat.reduceAdd, Nat.reduceSub, Nat.reduceMul, Nat.reduceLeDiff, reduceCtorEq, Int.reduceNeg, Int.reduceToNat, Int.reduceLT, Int.reduceLE, Int.reduceGE, Int.reduceGT, Int.reduceEq, a1, a2, b1, b2, b3, b4]
  refine ACs.of (RPrincipal_own b lt x1.2 k _ _ (by simp only [a1, a2, b1, b2, b3, b4, Own.set_same, rdO]) hn ?_)
  simp (dsimp := false) only [go_sem, ↓reduceIte, Nat.reduceEqDiff, Nat.reduceLT, Nat.reduceAdd, Nat.reduceSub, Nat.reduceMul, Nat.reduceLeDiff, reduceCtorEq, Int.reduceNeg, Int.reduceToNat, Int.reduceLT, Int.reduceLE, Int.reduceGE, Int.reduceGT, Int.reduceEq, e2, prinA, a1, a2, b1, b2, b3, b4]
  refine ACs.of (ROctet_own b lt s2 k _ _ (by simp only [a1, a2, b1, b2, b3, b4, Own.set_same, rdO]) o2.1 o2.2 hn ?_)
  simp (dsimp := false) only [go_sem, ↓reduceIte, Nat.reduceEqDiff, Nat.reduceLT, Nat.reduceAdd, Nat.reduceSub, Nat.reduceMul, Nat.reduceLeDiff, reduceCtorEq, Int.reduceNeg, Int.reduceToNat, Int.reduceLT, Int.reduceLE, Int.reduceGE, Int.reduceGT, Int.reduceEq, e3, a1, a2, b1, b2, b3, b4]
  refine ACs.of (ROctet_own b lt x3.2 k _ _ (by simp only [a1, a2, b1, b2, b3, b4, Own.set_same, rdO]) o3.1 o3.2 hn ?_)
  simp (dsimp := false) only [go_sem, ↓reduceIte, Nat.reduceEqDiff, Nat.reduceLT, Nat.reduceAdd, Nat.reduceSub, Nat.reduceMul, Nat.reduceLeDiff, reduceCtorEq, Int.reduceNeg, Int.reduceToNat, Int.reduceLT, Int.reduceLE, Int.reduceGE, Int.reduceGT, Int.reduceEq, e4, a1, a2, b1, b2, b3, b4]
  refine ACs.of (ROctet_own b lt x4.2 k _ _ (by simp only [a1, a2, b1, b2, b3, b4, Own.set_same, rdO]) o4.1 o4.2 hn ?_)
  simp (dsimp := false) only [go_sem, ↓reduceIte, Nat.reduceEqDiff, Nat.reduceLT, Nat.reduceAdd, Nat.reduceSub, Nat.reduceMul, Nat.reduceLeDiff, reduceCtorEq, Int.reduceNeg, Int.reduceToNat, Int.reduceLT, Int.reduceLE, Int.reduceGE, Int.reduceGT, Int.reduceEq, e5, a1, a2, b1, b2, b3, b4]
  refine ACs.of (RBytes_own b x5.1 lt x5.2 k _ _ (by simp only [a1, a2, b1, b2, b3, b4, Own.set_same, rdO]) o5.1 o5.2 hp6 (by omega) hn ?_)
  simp (dsimp := false) only [go_sem, ↓reduceIte, Nat.reduceEqDiff, Nat.reduceLT, Nat.reduceAdd, Nat.reduceSub, Nat.reduceMul, Nat.reduceLeDiff, reduceCtorEq, Int.reduceNeg, Int.reduceToNat, Int.reduceLT, Int.reduceLE, Int.reduceGE, Int.reduceGT, Int.reduceEq, e6, a1, a2, b1, b2, b3, b4]
  refine ACs.of (RNumber_own b lt x6.2 k _ _ (by simp only [a1, a2, b1, b2, b3, b4, Own.set_same, rdO]) o6.1 o6.2 hn ?_)
  simp (dsimp := false) only [go_sem, ↓reduceIte, Nat.reduceEqDiff, Nat.reduceLT, Nat.reduceAdd, Nat.reduceSub, Nat.reduceMul, Nat.reduceLeDiff, reduceCtorEq, Int.reduceNeg, Int.reduceToNat, Int.reduceLT, Int.reduceLE, Int.reduceGE, Int.reduceGT, Int.reduceEq, e7, a1, a2, b1, b2, b3, b4]
  refine ACs.pure hE ?_
  (try simp (dsimp := false) only [go_sem, ↓reduceIte, Nat.reduceEqDiff, Nat.reduceLT, Nat.reduceAdd, Nat.reduceSub, Nat.reduceMul, Nat.reduceLeDiff, reduceCtorEq, Int.reduceNeg, Int.reduceToNat, Int.reduceLT, Int.reduceLE, Int.reduceGE, Int.reduceGT, Int.reduceEq, rdO, a1, a2, b1, b2, b3, b4])
  rcases Bool.eq_false_or_eq_true x7.2.2 with hb | hb
  · simp (dsimp := false) only [go_sem, ↓reduceIte, Nat.reduceEqDiff, Nat.reduceLT, Nat.reduceAdd, Nat.reduceSub, Nat.reduceMul, Nat.reduceLeDiff, reduceCtorEq, Int.reduceNeg, Int.reduceToNat, Int.reduceLT, Int.reduceLE, Int.reduceGE, Int.reduceGT, Int.reduceEq, hb, a1, a2, b1, b2, b3, b4, rdO]
    refine ⟨.tup [prtZ, .raw (.int .i64 100)], _, prtZ_weak, .inr ⟨fun k' n' i' r' li' kv' x' tm' h => ?_, rfl⟩⟩
    rw [(key _ _ _ _ _ _ _ _ h).2.2.2.2.2.2.2.2] at hb
    cases hb
  by_cases hc : prtChk lt kv1.1 p2_1 p2_2 p2_3 x3.1 x4.1 x6.1 x7.1 = 0
  · simp only [hc, if_true]
    by_cases hq : prtB lt kv1.1 p2_1 p2_2 p2_3 x3.1 x4.1 x6.1 x7.1 = b
    · simp (dsimp := false) only [go_sem, ↓reduceIte, Nat.reduceEqDiff, Nat.reduceLT, Nat.reduceAdd, Nat.reduceSub, Nat.reduceMul, Nat.reduceLeDiff, reduceCtorEq, Int.reduceNeg, Int.reduceToNat, Int.reduceLT, Int.reduceLE, Int.reduceGE, Int.reduceGT, Int.reduceEq, hb, hc, hq, bytes_eq, a1, a2, b1, b2, b3, b4, rdO]
      exact ⟨_, _, Weak1.refl _ _, .inl ⟨_, _, _, _, _, _, _, _, ⟨⟨hc, zk1.1, zk1.2⟩, hq⟩, rfl⟩⟩
    · simp (dsimp := false) only [go_sem, ↓reduceIte, Nat.reduceEqDiff, Nat.reduceLT, Nat.reduceAdd, Nat.reduceSub, Nat.reduceMul, Nat.reduceLeDiff, reduceCtorEq, Int.reduceNeg, Int.reduceToNat, Int.reduceLT, Int.reduceLE, Int.reduceGE, Int.reduceGT, Int.reduceEq, hb, hc, hq, bytes_eq, a1, a2, b1, b2, b3, b4, rdO]
      refine ⟨.tup [prtZ, .raw (.int .i64 100)], _, prtZ_weak, .inr ⟨fun k' n' i' r' li' kv' x' tm' h => ?_, rfl⟩⟩
      obtain ⟨rfl, rfl, rfl, rfl, rfl, rfl, rfl, rfl, _⟩ := key _ _ _ _ _ _ _ _ h
      exact hq h.2
  · simp (dsimp := false) only [go_sem, ↓reduceIte, Nat.reduceEqDiff, Nat.reduceLT, Nat.reduceAdd, Nat.reduceSub, Nat.reduceMul, Nat.reduceLeDiff, reduceCtorEq, Int.reduceNeg, Int.reduceToNat, Int.reduceLT, Int.reduceLE, Int.reduceGE, Int.reduceGT, Int.reduceEq, hb, hc, a1, a2, b1, b2, b3, b4, rdO]
    refine ⟨.tup [prtZ, .raw (.int .i64 100)], _, prtZ_weak, .inr ⟨fun k' n' i' r' li' kv' x' tm' h => ?_, rfl⟩⟩
    obtain ⟨rfl, rfl, rfl, rfl, rfl, rfl, rfl, rfl, _⟩ := key _ _ _ _ _ _ _ _ h
    exact hc (prtOk_chk h.1)
end Go.Proofs.YtghnigbihllnmaaGreat.Fn
