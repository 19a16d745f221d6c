/- Safe and private messages, as the reference takes them apart and opens them. -/
import Derived.Test.YtghnigbihllnmaaGreatFn67
import Derived.Test.YtghnigbihllnmaaGreatFn58
set_option linter.unusedVariables false
set_option linter.unusedSimpArgs false
namespace Go.Proofs.YtghnigbihllnmaaGreat.Fn
open Go Hl Sp Ty
set_option maxRecDepth 100000
theorem nextC_inv {s : Int × Bool} {a e : Int} (h : (nextC s a e).2 = false) : s.2 = false ∧ e = 0 ∧ (nextC s a e).1 = a := by
  unfold nextC at *
  by_cases h1 : s.2 = true
  · rw [if_pos h1] at h
    rw [h] at h1
    cases h1
  · rw [if_neg h1] at h ⊢
    by_cases h2 : e ≠ 0
    · rw [if_pos h2] at h
      cases h
    · rw [if_neg h2]
      exact ⟨(Bool.eq_false_or_eq_true _).resolve_left h1, Classical.not_not.1 h2, rfl⟩
theorem rNum_inv {b : List UInt8} {size : Nat} {lt : Bool} {s : Int × Bool} {x : Int × Int × Bool} (e : rNum b size lt s = x) (hb : x.2.2 = false) :
    s.2 = false ∧ s.1 + size ≤ b.length ∧ x.2.1 = s.1 + size ∧ x.1 = ((readV ((b.drop s.1.toNat).take size) lt : Nat) : Int) := by
  subst e
  unfold rNum at *
  obtain ⟨h1, h2, h3⟩ := nextC_inv hb
  simp only at h3 ⊢
  rw [h3]
  unfold readN at *
  by_cases hl : s.1 + size ≤ b.length
  · rw [if_pos hl] at h2 ⊢
    exact ⟨h1, hl, rfl, rfl⟩
  · rw [if_neg hl] at h2
    cases h2
theorem rByt_inv {b : List UInt8} {n : Int} {s : Int × Bool} {x : List UInt8 × Int × Bool} (e : rByt b n s = x) (hb : x.2.2 = false) :
    s.2 = false ∧ s.1 + n ≤ b.length ∧ x.2.1 = s.1 + n ∧ x.1 = (b.drop s.1.toNat).take n.toNat := by
  subst e
  unfold rByt at *
  obtain ⟨h1, h2, h3⟩ := nextC_inv hb
  simp only at h3 ⊢
  rw [h3]
  unfold bytesR at *
  by_cases hl : s.1 + n ≤ b.length
  · rw [if_pos hl] at h2 ⊢
    exact ⟨h1, hl, rfl, rfl⟩
  · rw [if_neg hl] at h2
    cases h2
theorem u8_nat (c : UInt8) : u8 (c.toNat : Int) = c := by
  apply UInt8.toNat_inj.1
  have := u8_toNat (c.toNat : Int)
  have h := c.toNat_lt
  omega
theorem numB_readV {l : List UInt8} (lt : Bool) (h : l.length = 2) : numB ((readV l lt : Nat) : Int) 2 lt = l := by
  match l, h with
  | [a, c], _ =>
    have ha := a.toNat_lt
    have hc := c.toNat_lt
    have key : ∀ a c : UInt8, u8 (((a.toNat + 256 * c.toNat : Nat) : Int).fdiv (2 ^ 0)) = a ∧ u8 (((a.toNat + 256 * c.toNat : Nat) : Int).fdiv (2 ^ 8)) = c := fun a c => by
      have ha := a.toNat_lt
      have hc := c.toNat_lt
      constructor
      · apply UInt8.toNat_inj.1
        have := u8_toNat (((a.toNat + 256 * c.toNat : Nat) : Int).fdiv (2 ^ 0))
        rw [Int.fdiv_eq_ediv_of_nonneg _ (by decide), show (2 : Int) ^ 0 = 1 by decide] at this ⊢
        omega
      · apply UInt8.toNat_inj.1
        have := u8_toNat (((a.toNat + 256 * c.toNat : Nat) : Int).fdiv (2 ^ 8))
        rw [Int.fdiv_eq_ediv_of_nonneg _ (by decide), show (2 : Int) ^ 8 = 256 by decide] at this ⊢
        omega
    have hlow : ∀ n : Int, lowB n 2 = [u8 (n.fdiv (2 ^ 0)), u8 (n.fdiv (2 ^ 8))] := fun n => by simp [lowB, List.range_succ]
    unfold numB readV
    cases lt
    · simp only [Bool.false_eq_true, if_false, hlow, List.reverse_cons, List.reverse_nil, List.nil_append, List.singleton_append, readL, Nat.mul_zero, Nat.add_zero]
      rw [(key c a).1, (key c a).2]
    · simp only [if_true, hlow, readL, Nat.mul_zero, Nat.add_zero]
      rw [(key a c).1, (key a c).2]
theorem hdR_inv {b : List UInt8} {kind : Int} {lt : Bool} (h : hdR b = (kind, lt, 0)) : 2 ≤ b.length ∧ b = hdB kind lt ++ b.drop 2 := by
  unfold hdR at h
  by_cases h0 : (b.length : Int) < 2
  · rw [if_pos h0] at h
    simp at h
  rw [if_neg h0] at h
  refine ⟨by omega, ?_⟩
  match b, (show 2 ≤ b.length by omega) with
  | c0 :: c1 :: rest, _ =>
    simp only [List.getD_cons_zero, List.getD_cons_succ] at h
    by_cases h1 : (c0.toNat : Int) ≠ 4
    · rw [if_pos h1] at h
      simp at h
    rw [if_neg h1] at h
    by_cases h2 : kindB ((c1.toNat : Int).tdiv 2) = false
    · rw [if_pos h2] at h
      simp at h
    rw [if_neg h2] at h
    simp only [Prod.mk.injEq, and_true] at h
    obtain ⟨hk, hl⟩ := h
    have e0 : c0 = 4 := by
      apply UInt8.toNat_inj.1
      have : (c0.toNat : Int) = 4 := Classical.not_not.1 h1
      simp
      omega
    have hr : (c1.toNat : Int) ≤ 255 := by have := c1.toNat_lt; omega
    rw [Int.tdiv_eq_ediv_of_nonneg (by omega)] at hk
    rw [Int.tmod_eq_emod_of_nonneg (by omega)] at hl
    have e1 : u8 (2 * kind + flagZ lt) = c1 := by
      rw [← hk, ← hl]
      by_cases hm : (c1.toNat : Int) % 2 = 1
      · rw [decide_eq_true hm]
        rw [show (2 * ((c1.toNat : Int) / 2) + flagZ true) = (c1.toNat : Int) by unfold flagZ; simp; omega]
        exact u8_nat c1
      · rw [decide_eq_false hm]
        rw [show (2 * ((c1.toNat : Int) / 2) + flagZ false) = (c1.toNat : Int) by unfold flagZ; simp; omega]
        exact u8_nat c1
    rw [hdB, e1, e0]
    rfl
theorem drop_cut {l : List UInt8} (a n : Nat) : l.drop a = (l.drop a).take n ++ l.drop (a + n) := by
  rw [← List.drop_drop, List.take_append_drop]
theorem piece {b : List UInt8} {lt : Bool} {s : Int × Bool} {x1 : Int × Int × Bool} {x2 : List UInt8 × Int × Bool} (e1 : rNum b 2 lt s = x1) (e2 : rByt b x1.1 x1.2 = x2) (h0 : 0 ≤ s.1) (hb : x2.2.2 = false) :
    s.2 = false ∧ x2.2.1 = s.1 + 2 + x2.1.length ∧ x2.2.1 ≤ b.length ∧ b.drop s.1.toNat = numB (x2.1.length : Int) 2 lt ++ x2.1 ++ b.drop x2.2.1.toNat := by
  obtain ⟨g1, g2, g3, g4⟩ := rByt_inv e2 hb
  obtain ⟨f1, f2, f3, f4⟩ := rNum_inv e1 g1
  have hn : 0 ≤ x1.1 := by rw [f4]; exact Int.natCast_nonneg _
  have hl2 : ((b.drop s.1.toNat).take 2).length = 2 := by simp; omega
  have hxl : (x2.1.length : Int) = x1.1 := by rw [g4]; simp; omega
  have hnum : numB (x2.1.length : Int) 2 lt = (b.drop s.1.toNat).take 2 := by rw [hxl, f4]; exact numB_readV lt hl2
  refine ⟨f1, by omega, by omega, ?_⟩
  have p1 : x1.2.1.toNat = s.1.toNat + 2 := by omega
  have p2 : x2.2.1.toNat = x1.2.1.toNat + x1.1.toNat := by omega
  rw [hnum, g4, p2, List.append_assoc, ← drop_cut, p1, ← drop_cut]
set_option maxHeartbeats 8000000 in
theorem rParts_pn (b : List UInt8) (hn : b.length ≤ 140737488355000) : PN Tryz.prog 54 [.lst 1 (b.map byteA)] (PtS b) := by
  refine PN.post ?_
  obtain ⟨⟨lt, e⟩, hI⟩ : ∃ x, hdIs b [6, 7] = x := ⟨_, rfl⟩
  have hP := rhdIs_pure b [6, 7] hn (by simp)
  rw [hI] at hP
  simp only [List.map_cons, List.map_nil, iA] at hP
  have hR0 := rhdRead_pure b hn
  by_cases he : e = 0
  rotate_left
  · have hfin : PtS b (.tup [.lst 1 [], .lst 1 [], .raw (.bool false), .raw (.int .i64 e)]) := by
      refine .inr (.inr ⟨fun lt' t x h => ?_, fun lt' x h => ?_, by rw [ptErr, hI, if_neg he]⟩)
      · have := hI.symm.trans h.hd2
        simp only [Prod.mk.injEq] at this
        exact he this.2
      · have := hI.symm.trans h.hd2
        simp only [Prod.mk.injEq] at this
        exact he this.2
    refine AC.of_body (M := []) Tryz.func54 rfl (by kernel_rfl) (Nat.le_of_ble_eq_true rfl) ?_; simp only [Tryz.results54, Tryz.ntmps54]
    simp (dsimp := false) only [go_sem, ↓reduceIte, Nat.reduceEqDiff, Nat.reduceLT, Nat.reduceAdd, Nat.reduceSub, Nat.reduceMul, Nat.reduceLeDiff, reduceCtorEq, Int.reduceNeg, Int.reduceToNat, Int.reduceLT, Int.reduceLE, Int.reduceGE, Int.reduceGT, Int.reduceEq]
    refine ACs.pure hP ?_
    simp (dsimp := false) only [go_sem, ↓reduceIte, Nat.reduceEqDiff, Nat.reduceLT, Nat.reduceAdd, Nat.reduceSub, Nat.reduceMul, Nat.reduceLeDiff, reduceCtorEq, Int.reduceNeg, Int.reduceToNat, Int.reduceLT, Int.reduceLE, Int.reduceGE, Int.reduceGT, Int.reduceEq, he]
    exact ⟨_, _, nilT, hfin⟩
  subst he
  have herr : ptErr b = 100 := by rw [ptErr, hI]; rfl
  have o0 : 0 ≤ ((2 : Int), false).1 ∧ ((2 : Int), false).1 ≤ b.length := ⟨by decide, hdIs_len hI⟩
  obtain ⟨⟨kk, lt2, e2⟩, hRR⟩ : ∃ x, hdR b = x := ⟨_, rfl⟩
  rw [hRR] at hR0
  have hkk : e2 = 0 ∧ (kk = 6 ∨ kk = 7) ∧ lt2 = lt := by
    rw [hdIs, hRR] at hI
    by_cases h1 : e2 = 0
    · rw [if_neg (fun h => h h1)] at hI
      by_cases h2 : kk ∈ [(6 : Int), 7]
      · rw [if_pos h2] at hI
        simp only [Prod.mk.injEq, and_true] at hI
        exact ⟨h1, by simpa using h2, hI⟩
      · rw [if_neg h2] at hI
        simp at hI
    · rw [if_pos h1] at hI
      simp only [Prod.mk.injEq] at hI
      exact absurd hI.2 h1
  obtain ⟨rfl, hk67, rfl⟩ := hkk
  obtain ⟨hb2, hbe⟩ := hdR_inv hRR
  by_cases h7 : kk = 7
  · have hnp : ∀ lt' x, ¬ prvIs b lt' x := fun lt' x h => by
      have := hRR.symm.trans h.hdr
      simp only [Prod.mk.injEq] at this
      omega
    have hbad : (∀ lt' t x, ¬ safIs b lt' t x) → PtS b (.tup [.lst 1 [], .lst 1 [], .raw (.bool false), .raw (.int .i64 100)]) := fun h => .inr (.inr ⟨h, hnp, by rw [herr]⟩)
    obtain ⟨x1, e1⟩ : ∃ x, rNum b 2 lt2 (2, false) = x := ⟨_, rfl⟩
    have o1 : 0 ≤ x1.2.1 ∧ x1.2.1 ≤ b.length := by rw [← e1]; exact rNum_ok o0.1 o0.2
    obtain ⟨x2, e2⟩ : ∃ x, rByt b x1.1 x1.2 = x := ⟨_, rfl⟩
    have hp2 : 0 ≤ x1.1 := by rw [← e1]; exact rNum_nn _ _ _ _
    have hq2 : x1.1 ≤ 65535 := by rw [← e1]; exact rNum_le _ _ _ _ (by decide)
    have o2 : 0 ≤ x2.2.1 ∧ x2.2.1 ≤ b.length := by rw [← e2]; exact rByt_ok o1.1 o1.2 hp2
    have zl2 : x2.1.length ≤ 65535 := by rw [← e2]; exact rByt_le _ _ _ () (by omega)
    obtain ⟨x3, e3⟩ : ∃ x, rNum b 2 lt2 x2.2 = x := ⟨_, rfl⟩
    have o3 : 0 ≤ x3.2.1 ∧ x3.2.1 ≤ b.length := by rw [← e3]; exact rNum_ok o2.1 o2.2
    obtain ⟨x4, e4⟩ : ∃ x, rByt b x3.1 x3.2 = x := ⟨_, rfl⟩
    have hp4 : 0 ≤ x3.1 := by rw [← e3]; exact rNum_nn _ _ _ _
    have hq4 : x3.1 ≤ 65535 := by rw [← e3]; exact rNum_le _ _ _ _ (by decide)
    have o4 : 0 ≤ x4.2.1 ∧ x4.2.1 ≤ b.length := by rw [← e4]; exact rByt_ok o3.1 o3.2 hp4
    have zl4 : x4.1.length ≤ 65535 := by rw [← e4]; exact rByt_le _ _ _ () (by omega)
    have hR : safRr b lt2 (2, false) = (x1.1, x2.1, x3.1, x4.1, x4.2.2) := by simp only [safRr, e1, e2, e3, e4]
    have key : ∀ lt' t' x', safIs b lt' t' x' → lt' = lt2 ∧ t' = x2.1 ∧ x' = x4.1 ∧ x4.2.2 = false := fun lt' t' x' h => by
      have hl : lt' = lt2 := by have := hI.symm.trans h.hd2; simp only [Prod.mk.injEq] at this; exact this.1.symm
      subst hl
      have := h.rread.symm.trans hR
      simp only [Prod.mk.injEq] at this
      obtain ⟨a0, a1, a2, a3, j⟩ := this
      exact ⟨rfl, a1, a3, j.symm⟩
    have hpc : x4.2.2 = false → x4.2.1 = 6 + x2.1.length + x4.1.length ∧ x4.2.1 ≤ b.length ∧ b = safB lt2 x2.1 x4.1 ++ b.drop x4.2.1.toNat := fun hb => by
      obtain ⟨p1, p2, p3, p4⟩ := piece e3 e4 o2.1 hb
      obtain ⟨q1, q2, q3, q4⟩ := piece e1 e2 o0.1 p1
      refine ⟨by simp only at q2; omega, p3, ?_⟩
      have hd : b.drop 2 = safF lt2 x2.1 x4.1 ++ b.drop x4.2.1.toNat := by
        have : ((2 : Int), false).1.toNat = 2 := rfl
        rw [this] at q4
        rw [q4, p4, safF]
        simp only [List.append_assoc]
      rw [safB, List.append_assoc, ← hd, ← h7]
      exact hbe
    refine AC.of_body (M := [30]) Tryz.func54 rfl (by kernel_rfl) (Nat.le_of_ble_eq_true rfl) ?_; simp only [Tryz.results54, Tryz.ntmps54]
    simp (dsimp := false) only [go_sem, ↓reduceIte, Nat.reduceEqDiff, Nat.reduceLT, Nat.reduceAdd, Nat.reduceSub, Nat.reduceMul, Nat.reduceLeDiff, reduceCtorEq, Int.reduceNeg, Int.reduceToNat, Int.reduceLT, Int.reduceLE, Int.reduceGE, Int.reduceGT, Int.reduceEq]
    refine ACs.pure hP ?_
    simp (dsimp := false) only [go_sem, ↓reduceIte, Nat.reduceEqDiff, Nat.reduceLT, Nat.reduceAdd, Nat.reduceSub, Nat.reduceMul, Nat.reduceLeDiff, reduceCtorEq, Int.reduceNeg, Int.reduceToNat, Int.reduceLT, Int.reduceLE, Int.reduceGE, Int.reduceGT, Int.reduceEq]
    refine ACs.pure hR0 ?_
    simp (dsimp := false) only [go_sem, ↓reduceIte, Nat.reduceEqDiff, Nat.reduceLT, Nat.reduceAdd, Nat.reduceSub, Nat.reduceMul, Nat.reduceLeDiff, reduceCtorEq, Int.reduceNeg, Int.reduceToNat, Int.reduceLT, Int.reduceLE, Int.reduceGE, Int.reduceGT, Int.reduceEq, h7]
    intro k hk
    refine ACs.of (RShort_own b lt2 (2, false) k _ _ (by simp only [Own.set_same, Own.set_same, rdO]) o0.1 o0.2 hn ?_)
    simp (dsimp := false) only [go_sem, ↓reduceIte, Nat.reduceEqDiff, Nat.reduceLT, Nat.reduceAdd, Nat.reduceSub, Nat.reduceMul, Nat.reduceLeDiff, reduceCtorEq, Int.reduceNeg, Int.reduceToNat, Int.reduceLT, Int.reduceLE, Int.reduceGE, Int.reduceGT, Int.reduceEq, e1, Own.set_same]
    refine ACs.of (RBytes_own b x1.1 lt2 x1.2 k _ _ (by simp only [Own.set_same, Own.set_same, rdO]) o1.1 o1.2 hp2 (by omega) hn ?_)
    simp (dsimp := false) only [go_sem, ↓reduceIte, Nat.reduceEqDiff, Nat.reduceLT, Nat.reduceAdd, Nat.reduceSub, Nat.reduceMul, Nat.reduceLeDiff, reduceCtorEq, Int.reduceNeg, Int.reduceToNat, Int.reduceLT, Int.reduceLE, Int.reduceGE, Int.reduceGT, Int.reduceEq, e2, Own.set_same]
    refine ACs.of (RShort_own b lt2 x2.2 k _ _ (by simp only [Own.set_same, Own.set_same, rdO]) o2.1 o2.2 hn ?_)
    simp (dsimp := false) only [go_sem, ↓reduceIte, Nat.reduceEqDiff, Nat.reduceLT, Nat.reduceAdd, Nat.reduceSub, Nat.reduceMul, Nat.reduceLeDiff, reduceCtorEq, Int.reduceNeg, Int.reduceToNat, Int.reduceLT, Int.reduceLE, Int.reduceGE, Int.reduceGT, Int.reduceEq, e3, Own.set_same]
    refine ACs.of (RBytes_own b x3.1 lt2 x3.2 k _ _ (by simp only [Own.set_same, Own.set_same, rdO]) o3.1 o3.2 hp4 (by omega) hn ?_)
    simp (dsimp := false) only [go_sem, ↓reduceIte, Nat.reduceEqDiff, Nat.reduceLT, Nat.reduceAdd, Nat.reduceSub, Nat.reduceMul, Nat.reduceLeDiff, reduceCtorEq, Int.reduceNeg, Int.reduceToNat, Int.reduceLT, Int.reduceLE, Int.reduceGE, Int.reduceGT, Int.reduceEq, e4, Own.set_same]
    rcases Bool.eq_false_or_eq_true x4.2.2 with hb | hb
    · simp (dsimp := false) only [go_sem, ↓reduceIte, Nat.reduceEqDiff, Nat.reduceLT, Nat.reduceAdd, Nat.reduceSub, Nat.reduceMul, Nat.reduceLeDiff, reduceCtorEq, Int.reduceNeg, Int.reduceToNat, Int.reduceLT, Int.reduceLE, Int.reduceGE, Int.reduceGT, Int.reduceEq, hb, rdO, Own.set_same]
      exact ⟨_, _, nilT, hbad (fun lt' t x h => by rw [(key _ _ _ h).2.2.2] at hb; cases hb)⟩
    obtain ⟨c1, c2, c3⟩ := hpc hb
    by_cases hat : x4.2.1 = b.length
    rotate_left
    · simp (dsimp := false) only [go_sem, ↓reduceIte, Nat.reduceEqDiff, Nat.reduceLT, Nat.reduceAdd, Nat.reduceSub, Nat.reduceMul, Nat.reduceLeDiff, reduceCtorEq, Int.reduceNeg, Int.reduceToNat, Int.reduceLT, Int.reduceLE, Int.reduceGE, Int.reduceGT, Int.reduceEq, hb, hat, rdO, Own.set_same]
      exact ⟨_, _, nilT, hbad (fun lt' t x h => by obtain ⟨rfl, rfl, rfl, _⟩ := key _ _ _ h; have hl := congrArg List.length h.2; rw [safB, List.length_append, hdB_length, safF_length] at hl; omega)⟩
    have hq : safB lt2 x2.1 x4.1 = b := by rw [hat] at c3; rw [show ((b.length : Int)).toNat = b.length from Int.toNat_natCast _, List.drop_length, List.append_nil] at c3; exact c3.symm
    by_cases g1 : (x2.1.length : Int) > 1000
    · simp (dsimp := false) only [go_sem, ↓reduceIte, Nat.reduceEqDiff, Nat.reduceLT, Nat.reduceAdd, Nat.reduceSub, Nat.reduceMul, Nat.reduceLeDiff, reduceCtorEq, Int.reduceNeg, Int.reduceToNat, Int.reduceLT, Int.reduceLE, Int.reduceGE, Int.reduceGT, Int.reduceEq, hb, hat, rdO, Own.set_same, g1]
      exact ⟨_, _, nilT, hbad (fun lt' t x h => by obtain ⟨rfl, rfl, rfl, _⟩ := key _ _ _ h; have := safChk_ok (safOk_chk h.1); omega)⟩
    by_cases g2 : (x4.1.length : Int) > 1012
    · simp (dsimp := false) only [go_sem, ↓reduceIte, Nat.reduceEqDiff, Nat.reduceLT, Nat.reduceAdd, Nat.reduceSub, Nat.reduceMul, Nat.reduceLeDiff, reduceCtorEq, Int.reduceNeg, Int.reduceToNat, Int.reduceLT, Int.reduceLE, Int.reduceGE, Int.reduceGT, Int.reduceEq, hb, hat, rdO, Own.set_same, g1, g2]
      exact ⟨_, _, nilT, hbad (fun lt' t x h => by obtain ⟨rfl, rfl, rfl, _⟩ := key _ _ _ h; have := safChk_ok (safOk_chk h.1); omega)⟩
    simp (dsimp := false) only [go_sem, ↓reduceIte, Nat.reduceEqDiff, Nat.reduceLT, Nat.reduceAdd, Nat.reduceSub, Nat.reduceMul, Nat.reduceLeDiff, reduceCtorEq, Int.reduceNeg, Int.reduceToNat, Int.reduceLT, Int.reduceLE, Int.reduceGE, Int.reduceGT, Int.reduceEq, hb, hat, rdO, Own.set_same, g1, g2]
    exact ⟨_, _, Weak1.refl _ _, .inl ⟨_, _, _, ⟨by rw [safOk, safChk, if_neg (by omega)], hq⟩, rfl⟩⟩
  · have h6 : kk = 6 := by omega
    have hns : ∀ lt' t x, ¬ safIs b lt' t x := fun lt' t x h => by
      have := hRR.symm.trans h.hdr
      simp only [Prod.mk.injEq] at this
      omega
    have hbad : (∀ lt' x, ¬ prvIs b lt' x) → PtS b (.tup [.lst 1 [], .lst 1 [], .raw (.bool false), .raw (.int .i64 100)]) := fun h => .inr (.inr ⟨hns, h, by rw [herr]⟩)
    obtain ⟨x1, e1⟩ : ∃ x, rNum b 2 lt2 (2, false) = x := ⟨_, rfl⟩
    have o1 : 0 ≤ x1.2.1 ∧ x1.2.1 ≤ b.length := by rw [← e1]; exact rNum_ok o0.1 o0.2
    obtain ⟨x2, e2⟩ : ∃ x, rByt b x1.1 x1.2 = x := ⟨_, rfl⟩
    have hp2 : 0 ≤ x1.1 := by rw [← e1]; exact rNum_nn _ _ _ _
    have hq2 : x1.1 ≤ 65535 := by rw [← e1]; exact rNum_le _ _ _ _ (by decide)
    have o2 : 0 ≤ x2.2.1 ∧ x2.2.1 ≤ b.length := by rw [← e2]; exact rByt_ok o1.1 o1.2 hp2
    have zl2 : x2.1.length ≤ 65535 := by rw [← e2]; exact rByt_le _ _ _ () (by omega)
    have hR : prvRr b lt2 (2, false) = (x1.1, x2.1, x2.2.2) := by simp only [prvRr, e1, e2]
    have key : ∀ lt' x', prvIs b lt' x' → lt' = lt2 ∧ x' = x2.1 ∧ x2.2.2 = false := fun lt' x' h => by
      have hl : lt' = lt2 := by have := hI.symm.trans h.hd2; simp only [Prod.mk.injEq] at this; exact this.1.symm
      subst hl
      have := h.rread.symm.trans hR
      simp only [Prod.mk.injEq] at this
      obtain ⟨a0, a1, j⟩ := this
      exact ⟨rfl, a1, j.symm⟩
    have hpc : x2.2.2 = false → x2.2.1 = 4 + x2.1.length ∧ x2.2.1 ≤ b.length ∧ b = prvB lt2 x2.1 ++ b.drop x2.2.1.toNat := fun hb => by
      obtain ⟨q1, q2, q3, q4⟩ := piece e1 e2 o0.1 hb
      refine ⟨by simp only at q2; omega, q3, ?_⟩
      have hd : b.drop 2 = prvF lt2 x2.1 ++ b.drop x2.2.1.toNat := by
        have : ((2 : Int), false).1.toNat = 2 := rfl
        rw [this] at q4
        rw [q4, prvF]
      rw [prvB, List.append_assoc, ← hd, ← h6]
      exact hbe
    refine AC.of_body (M := [30]) Tryz.func54 rfl (by kernel_rfl) (Nat.le_of_ble_eq_true rfl) ?_; simp only [Tryz.results54, Tryz.ntmps54]
    simp (dsimp := false) only [go_sem, ↓reduceIte, Nat.reduceEqDiff, Nat.reduceLT, Nat.reduceAdd, Nat.reduceSub, Nat.reduceMul, Nat.reduceLeDiff, reduceCtorEq, Int.reduceNeg, Int.reduceToNat, Int.reduceLT, Int.reduceLE, Int.reduceGE, Int.reduceGT, Int.reduceEq]
    refine ACs.pure hP ?_
    simp (dsimp := false) only [go_sem, ↓reduceIte, Nat.reduceEqDiff, Nat.reduceLT, Nat.reduceAdd, Nat.reduceSub, Nat.reduceMul, Nat.reduceLeDiff, reduceCtorEq, Int.reduceNeg, Int.reduceToNat, Int.reduceLT, Int.reduceLE, Int.reduceGE, Int.reduceGT, Int.reduceEq]
    refine ACs.pure hR0 ?_
    simp (dsimp := false) only [go_sem, ↓reduceIte, Nat.reduceEqDiff, Nat.reduceLT, Nat.reduceAdd, Nat.reduceSub, Nat.reduceMul, Nat.reduceLeDiff, reduceCtorEq, Int.reduceNeg, Int.reduceToNat, Int.reduceLT, Int.reduceLE, Int.reduceGE, Int.reduceGT, Int.reduceEq, h7]
    intro k hk
    refine ACs.of (RShort_own b lt2 (2, false) k _ _ (by simp only [Own.set_same, Own.set_same, rdO]) o0.1 o0.2 hn ?_)
    simp (dsimp := false) only [go_sem, ↓reduceIte, Nat.reduceEqDiff, Nat.reduceLT, Nat.reduceAdd, Nat.reduceSub, Nat.reduceMul, Nat.reduceLeDiff, reduceCtorEq, Int.reduceNeg, Int.reduceToNat, Int.reduceLT, Int.reduceLE, Int.reduceGE, Int.reduceGT, Int.reduceEq, e1, Own.set_same]
    refine ACs.of (RBytes_own b x1.1 lt2 x1.2 k _ _ (by simp only [Own.set_same, Own.set_same, rdO]) o1.1 o1.2 hp2 (by omega) hn ?_)
    simp (dsimp := false) only [go_sem, ↓reduceIte, Nat.reduceEqDiff, Nat.reduceLT, Nat.reduceAdd, Nat.reduceSub, Nat.reduceMul, Nat.reduceLeDiff, reduceCtorEq, Int.reduceNeg, Int.reduceToNat, Int.reduceLT, Int.reduceLE, Int.reduceGE, Int.reduceGT, Int.reduceEq, e2, Own.set_same]
    rcases Bool.eq_false_or_eq_true x2.2.2 with hb | hb
    · simp (dsimp := false) only [go_sem, ↓reduceIte, Nat.reduceEqDiff, Nat.reduceLT, Nat.reduceAdd, Nat.reduceSub, Nat.reduceMul, Nat.reduceLeDiff, reduceCtorEq, Int.reduceNeg, Int.reduceToNat, Int.reduceLT, Int.reduceLE, Int.reduceGE, Int.reduceGT, Int.reduceEq, hb, rdO, Own.set_same]
      exact ⟨_, _, nilT, hbad (fun lt' x h => by rw [(key _ _ h).2.2] at hb; cases hb)⟩
    obtain ⟨c1, c2, c3⟩ := hpc hb
    by_cases hat : x2.2.1 = b.length
    rotate_left
    · simp (dsimp := false) only [go_sem, ↓reduceIte, Nat.reduceEqDiff, Nat.reduceLT, Nat.reduceAdd, Nat.reduceSub, Nat.reduceMul, Nat.reduceLeDiff, reduceCtorEq, Int.reduceNeg, Int.reduceToNat, Int.reduceLT, Int.reduceLE, Int.reduceGE, Int.reduceGT, Int.reduceEq, hb, hat, rdO, Own.set_same]
      exact ⟨_, _, nilT, hbad (fun lt' x h => by obtain ⟨rfl, rfl, _⟩ := key _ _ h; have hl := congrArg List.length h.2; rw [prvB, List.length_append, hdB_length, prvF_length] at hl; omega)⟩
    have hq : prvB lt2 x2.1 = b := by rw [hat] at c3; rw [show ((b.length : Int)).toNat = b.length from Int.toNat_natCast _, List.drop_length, List.append_nil] at c3; exact c3.symm
    by_cases g2 : (x2.1.length : Int) > 1012
    · simp (dsimp := false) only [go_sem, ↓reduceIte, Nat.reduceEqDiff, Nat.reduceLT, Nat.reduceAdd, Nat.reduceSub, Nat.reduceMul, Nat.reduceLeDiff, reduceCtorEq, Int.reduceNeg, Int.reduceToNat, Int.reduceLT, Int.reduceLE, Int.reduceGE, Int.reduceGT, Int.reduceEq, hb, hat, rdO, Own.set_same, g2]
      exact ⟨_, _, nilT, hbad (fun lt' x h => by obtain ⟨rfl, rfl, _⟩ := key _ _ h; have := prvChk_ok (prvOk_chk h.1); omega)⟩
    simp (dsimp := false) only [go_sem, ↓reduceIte, Nat.reduceEqDiff, Nat.reduceLT, Nat.reduceAdd, Nat.reduceSub, Nat.reduceMul, Nat.reduceLeDiff, reduceCtorEq, Int.reduceNeg, Int.reduceToNat, Int.reduceLT, Int.reduceLE, Int.reduceGE, Int.reduceGT, Int.reduceEq, hb, hat, rdO, Own.set_same, g2]
    exact ⟨_, _, nilT1, .inr (.inl ⟨_, _, ⟨by rw [prvOk, prvChk, if_neg (by omega)], hq⟩, rfl⟩)⟩
end Go.Proofs.YtghnigbihllnmaaGreat.Fn
