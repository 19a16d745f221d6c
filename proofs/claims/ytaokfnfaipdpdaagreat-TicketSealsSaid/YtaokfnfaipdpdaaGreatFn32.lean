/- The reference decodes tickets. -/
import Derived.Test.YtaokfnfaipdpdaaGreatHlC
import Derived.Test.YtaokfnfaipdpdaaGreatSp1
import Derived.Test.YtaokfnfaipdpdaaGreatTy
import Derived.Test.YtaokfnfaipdpdaaGreatFn1
import Derived.Test.YtaokfnfaipdpdaaGreatFn9
import Derived.Test.YtaokfnfaipdpdaaGreatFn15
import Derived.Test.YtaokfnfaipdpdaaGreatFn21
import Derived.Test.YtaokfnfaipdpdaaGreatFn24
import Derived.Test.YtaokfnfaipdpdaaGreatFn25
import Derived.Test.YtaokfnfaipdpdaaGreatFn26
import Derived.Test.YtaokfnfaipdpdaaGreatFn30
import Derived.Test.YtaokfnfaipdpdaaGreatFn31
set_option linter.unusedVariables false
set_option linter.unusedSimpArgs false
namespace Go.Proofs.YtaokfnfaipdpdaaGreat.Fn
open Go Hl Sp Ty
set_option maxRecDepth 100000
set_option maxHeartbeats 8000000 in
theorem rtkDecode_pn (b : List UInt8) (hn : b.length ≤ 140737488355000) : PN Tryz.prog 25 [.lst 1 (b.map byteA)] (DecT b) := by
  refine PN.of_ac ?_
  obtain ⟨c0, e0⟩ : ∃ c, b.getD 0 0 = c := ⟨_, rfl⟩
  have g0 : (b.length : Int) > 0 → (b.map byteA).getD 0 .any = .raw (.int .u8 (c0.toNat)) := fun hp => by rw [getD_byte (by omega), e0]; rfl
  by_cases hgt : (b.length : Int) > 0 ∧ (c0.toNat : Int) > 1
  · have g0 := g0 hgt.1
    have h1 := hgt.1
    have h2 := hgt.2
    refine AC.of_body (M := []) Tryz.func25 rfl (by kernel_rfl) (Nat.le_of_ble_eq_true rfl) ?_; simp only [Tryz.results25, Tryz.ntmps25]
    simp (dsimp := false) only [go_sem, ↓reduceIte, Nat.reduceEqDiff, Nat.reduceLT, Nat.reduceAdd, Nat.reduceSub, Nat.reduceMul, Nat.reduceLeDiff, reduceCtorEq, Int.reduceNeg, Int.reduceToNat, Int.reduceLT, Int.reduceLE, Int.reduceGE, Int.reduceGT, Int.reduceEq, h1, g0, h2]
    intro k1 _
    refine .inr ⟨fun lt n i r ad k li is s t h => ?_, ?_⟩
    · have := h.lt_eq.2.1
      rw [e0] at this
      exact this h2
    · rw [errT, if_pos ⟨h1, by rw [e0]; exact h2⟩]
      rfl
  have herr : errT b = 100 := by rw [errT, if_neg (by rw [e0]; exact hgt)]
  obtain ⟨x0, ex⟩ : ∃ x, rNum b 1 false (0, false) = x := ⟨_, rfl⟩
  have hx : 0 < b.length → x0 = ((c0.toNat : Int), (1, false)) := fun hp => by
    cases b with
    | nil => simp at hp
    | cons c rest =>
      have := rNum_one [] rest c
      rw [show ([] : List UInt8) ++ (c :: rest) = c :: rest from rfl, show (([] : List UInt8).length : Int) = 0 from rfl, ex] at this
      rw [this, ← e0]
      rfl
  obtain ⟨lt, hlt⟩ : ∃ l, decide (x0.1 = 1) = l := ⟨_, rfl⟩
  have hlt' : ∀ {lt' : Bool} {n i r : ByteArray} {ad k li is : Int} {s t : ByteArray}, TkIs b lt' n i r ad k li is s t → lt' = lt := fun h => by
    rw [← h.lt_eq.1, e0, ← hlt, hx h.lt_eq.2.2]
  have hrd : ∀ {n i r : ByteArray} {ad k li is : Int} {s t : ByteArray}, TkIs b lt n i r ad k li is s t → tkRr b lt x0.2 = ((n, i, r), ad, k, li, is, s, t, false) := fun h => by
    rw [hx h.lt_eq.2.2]
    exact h.rread
  have o0 : 0 ≤ x0.2.1 ∧ x0.2.1 ≤ b.length := by rw [← ex]; exact rNum_ok (Int.le_refl _) (by simp)
  obtain ⟨⟨⟨p1, p2, p3⟩, s1⟩, e1⟩ : ∃ x, rPrin b x0.2 = x := ⟨_, rfl⟩
  obtain ⟨x2, e2⟩ : ∃ x, rNum b 4 lt s1 = x := ⟨_, rfl⟩
  obtain ⟨y3, e3⟩ : ∃ x, rByt b 8 x2.2 = x := ⟨_, rfl⟩
  obtain ⟨kv, e3'⟩ : ∃ x, keyR y3.1 = x := ⟨_, rfl⟩
  obtain ⟨x4, e4⟩ : ∃ x, rNum b 1 false y3.2 = x := ⟨_, rfl⟩
  obtain ⟨x5, e5⟩ : ∃ x, rNum b 4 lt x4.2 = x := ⟨_, rfl⟩
  obtain ⟨x6, e6⟩ : ∃ x, rTxt b x5.2 = x := ⟨_, rfl⟩
  obtain ⟨x7, e7⟩ : ∃ x, rTxt b x6.2 = x := ⟨_, rfl⟩
  have o1 : 0 ≤ s1.1 ∧ s1.1 ≤ b.length := by have := rPrin_ok (b := b) (s := x0.2) o0.1 o0.2; rw [e1] at this; exact this
  have o2 : 0 ≤ x2.2.1 ∧ x2.2.1 ≤ b.length := by rw [← e2]; exact rNum_ok o1.1 o1.2
  have o3 : 0 ≤ y3.2.1 ∧ y3.2.1 ≤ b.length := by rw [← e3]; exact rByt_ok o2.1 o2.2 (by decide)
  have o4 : 0 ≤ x4.2.1 ∧ x4.2.1 ≤ b.length := by rw [← e4]; exact rNum_ok o3.1 o3.2
  have o5 : 0 ≤ x5.2.1 ∧ x5.2.1 ≤ b.length := by rw [← e5]; exact rNum_ok o4.1 o4.2
  have z1 := rPrin_small b x0.2
  rw [e1] at z1
  simp only at z1
  have z6 : x6.1.size ≤ 39 := by rw [← e6]; exact rTxt_small _ _
  have z7 : x7.1.size ≤ 39 := by rw [← e7]; exact rTxt_small _ _
  have zk : 0 ≤ kv.1 ∧ kv.1 < 18446744073709551616 := by rw [← e3']; exact keyR_range _
  have zb : y3.1.length ≤ 140737488355000 := by
    rw [← e3]
    exact rByt_len hn
  have hR : tkRr b lt x0.2 = ((p1, p2, p3), x2.1, kv.1, x4.1, x5.1, x6.1, x7.1, x7.2.2) := by simp only [tkRr, rKey, e1, e2, e3, e3', e4, e5, e6, e7]
  have hK := rkeyRead_pure y3.1 zb
  rw [e3'] at hK
  have hE := rtkEncode_pure lt p1 p2 p3 x2.1 kv.1 x4.1 x5.1 x6.1 x7.1 (by omega) (by omega) (by omega) (by omega) (by omega) zk.1 zk.2
  unfold ticketA tkE at hE
  have key : ∀ lt' n i r ad k li is s t, TkIs b lt' n i r ad k li is s t → lt' = lt ∧ n = p1 ∧ i = p2 ∧ r = p3 ∧ ad = x2.1 ∧ k = kv.1 ∧ li = x4.1 ∧ is = x5.1 ∧ s = x6.1 ∧ t = x7.1 ∧ x7.2.2 = false := fun lt' n i r ad k li is s t h => by
    have hl : lt' = lt := hlt' h
    subst hl
    have := (hrd h).symm.trans hR
    simp only [Prod.mk.injEq] at this
    obtain ⟨⟨a, b, c⟩, d, e, f, g, h, i, j⟩ := this
    exact ⟨rfl, a, b, c, d, e, f, g, h, i, j.symm⟩
  by_cases hpos : (b.length : Int) > 0
  · have g0 := g0 hpos
    have hgt' : ¬ (c0.toNat : Int) > 1 := fun h => hgt ⟨hpos, h⟩
    refine AC.of_body (M := [20]) Tryz.func25 rfl (by kernel_rfl) (Nat.le_of_ble_eq_true rfl) ?_; simp only [Tryz.results25, Tryz.ntmps25]
    simp (dsimp := false) only [go_sem, ↓reduceIte, Nat.reduceEqDiff, Nat.reduceLT, Nat.reduceAdd, Nat.reduceSub, Nat.reduceMul, Nat.reduceLeDiff, reduceCtorEq, Int.reduceNeg, Int.reduceToNat, Int.reduceLT, Int.reduceLE, Int.reduceGE, Int.reduceGT, Int.reduceEq, hpos, g0, hgt']
    intro k1 hk1 k hk
    have n1 := none_ne hk
    have a1 : ∀ (own : Own) o, (own.set k1 o) k = own k := fun own o => Own.set_ne _ _ n1
    have a2 : ∀ (own : Own) o, (own.set k o) k1 = own k1 := fun own o => Own.set_ne _ _ (Ne.symm n1)
    refine ACs.of (ROctet_own b false (0, false) k _ _ (Own.set_same _ _ _) (Int.le_refl _) (by simp) hn ?_)
    simp (dsimp := false) only [go_sem, ↓reduceIte, Nat.reduceEqDiff, Nat.reduceLT, Nat.reduceAdd, Nat.reduceSub, Nat.reduceMul, Nat.reduceLeDiff, reduceCtorEq, Int.reduceNeg, Int.reduceToNat, Int.reduceLT, Int.reduceLE, Int.reduceGE, Int.reduceGT, Int.reduceEq, ex, hlt, rdO]
    intro k2 hk2
    have n2 := none_ne hk2
    have hk2' := hk2
    rw [Own.set_ne _ _ n2] at hk2'
    have n12 := none_ne hk2'
    have b1 : ∀ (own : Own) o, (own.set k2 o) k = own k := fun own o => Own.set_ne _ _ (Ne.symm n2)
    have b2 : ∀ (own : Own) o, (own.set k o) k2 = own k2 := fun own o => Own.set_ne _ _ n2
    have b3 : ∀ (own : Own) o, (own.set k2 o) k1 = own k1 := fun own o => Own.set_ne _ _ (Ne.symm n12)
    have b4 : ∀ (own : Own) o, (own.set k1 o) k2 = own k2 := fun own o => Own.set_ne _ _ n12
    clear hk hk2 hk2' hk1
    refine ACs.of (RPrincipal_own b lt x0.2 k _ _ (by simp only [a1, a2, b1, b2, b3, b4, Own.set_same, rdO]) hn ?_)
    simp (dsimp := false) only [go_sem, ↓reduceIte, Nat.reduceEqDiff, Nat.reduceLT, Nat.reduceAdd, Nat.reduceSub, Nat.reduceMul, Nat.reduceLeDiff, reduceCtorEq, Int.reduceNeg, Int.reduceToNat, Int.reduceLT, Int.reduceLE, Int.reduceGE, Int.reduceGT, Int.reduceEq, e1, prinA, a1, a2, b1, b2, b3, b4]
    refine ACs.of (RNumber_own b lt s1 k _ _ (by simp only [a1, a2, b1, b2, b3, b4, Own.set_same]) o1.1 o1.2 hn ?_)
    simp (dsimp := false) only [go_sem, ↓reduceIte, Nat.reduceEqDiff, Nat.reduceLT, Nat.reduceAdd, Nat.reduceSub, Nat.reduceMul, Nat.reduceLeDiff, reduceCtorEq, Int.reduceNeg, Int.reduceToNat, Int.reduceLT, Int.reduceLE, Int.reduceGE, Int.reduceGT, Int.reduceEq, e2, a1, a2, b1, b2, b3, b4]
    refine ACs.of (RBytes_own b 8 lt x2.2 k _ _ (by simp only [a1, a2, b1, b2, b3, b4, Own.set_same]) o2.1 o2.2 (by decide) (by decide) hn ?_)
    simp (dsimp := false) only [go_sem, ↓reduceIte, Nat.reduceEqDiff, Nat.reduceLT, Nat.reduceAdd, Nat.reduceSub, Nat.reduceMul, Nat.reduceLeDiff, reduceCtorEq, Int.reduceNeg, Int.reduceToNat, Int.reduceLT, Int.reduceLE, Int.reduceGE, Int.reduceGT, Int.reduceEq, e3, a1, a2, b1, b2, b3, b4]
    refine ACs.pure hK ?_
    simp (dsimp := false) only [go_sem, ↓reduceIte, Nat.reduceEqDiff, Nat.reduceLT, Nat.reduceAdd, Nat.reduceSub, Nat.reduceMul, Nat.reduceLeDiff, reduceCtorEq, Int.reduceNeg, Int.reduceToNat, Int.reduceLT, Int.reduceLE, Int.reduceGE, Int.reduceGT, Int.reduceEq, a1, a2, b1, b2, b3, b4]
    refine ACs.of (ROctet_own b lt y3.2 k _ _ (by simp only [a1, a2, b1, b2, b3, b4, Own.set_same]) o3.1 o3.2 hn ?_)
    simp (dsimp := false) only [go_sem, ↓reduceIte, Nat.reduceEqDiff, Nat.reduceLT, Nat.reduceAdd, Nat.reduceSub, Nat.reduceMul, Nat.reduceLeDiff, reduceCtorEq, Int.reduceNeg, Int.reduceToNat, Int.reduceLT, Int.reduceLE, Int.reduceGE, Int.reduceGT, Int.reduceEq, e4, a1, a2, b1, b2, b3, b4]
    refine ACs.of (RNumber_own b lt x4.2 k _ _ (by simp only [a1, a2, b1, b2, b3, b4, Own.set_same]) o4.1 o4.2 hn ?_)
    simp (dsimp := false) only [go_sem, ↓reduceIte, Nat.reduceEqDiff, Nat.reduceLT, Nat.reduceAdd, Nat.reduceSub, Nat.reduceMul, Nat.reduceLeDiff, reduceCtorEq, Int.reduceNeg, Int.reduceToNat, Int.reduceLT, Int.reduceLE, Int.reduceGE, Int.reduceGT, Int.reduceEq, e5, a1, a2, b1, b2, b3, b4]
    refine ACs.of (RText_own b lt x5.2 k _ _ (by simp only [a1, a2, b1, b2, b3, b4, Own.set_same]) hn ?_)
    simp (dsimp := false) only [go_sem, ↓reduceIte, Nat.reduceEqDiff, Nat.reduceLT, Nat.reduceAdd, Nat.reduceSub, Nat.reduceMul, Nat.reduceLeDiff, reduceCtorEq, Int.reduceNeg, Int.reduceToNat, Int.reduceLT, Int.reduceLE, Int.reduceGE, Int.reduceGT, Int.reduceEq, e6, a1, a2, b1, b2, b3, b4]
    refine ACs.of (RText_own b lt x6.2 k _ _ (by simp only [a1, a2, b1, b2, b3, b4, Own.set_same]) hn ?_)
    simp (dsimp := false) only [go_sem, ↓reduceIte, Nat.reduceEqDiff, Nat.reduceLT, Nat.reduceAdd, Nat.reduceSub, Nat.reduceMul, Nat.reduceLeDiff, reduceCtorEq, Int.reduceNeg, Int.reduceToNat, Int.reduceLT, Int.reduceLE, Int.reduceGE, Int.reduceGT, Int.reduceEq, e7, a1, a2, b1, b2, b3, b4]
    refine ACs.pure hE ?_
    rcases Bool.eq_false_or_eq_true x7.2.2 with hb | hb
    · simp (dsimp := false) only [go_sem, ↓reduceIte, Nat.reduceEqDiff, Nat.reduceLT, Nat.reduceAdd, Nat.reduceSub, Nat.reduceMul, Nat.reduceLeDiff, reduceCtorEq, Int.reduceNeg, Int.reduceToNat, Int.reduceLT, Int.reduceLE, Int.reduceGE, Int.reduceGT, Int.reduceEq, hb, a1, a2, b1, b2, b3, b4, rdO]
      refine .inr ⟨fun lt' n i r ad k li is s t h => ?_, by rw [herr]; rfl⟩
      rw [(key _ _ _ _ _ _ _ _ _ _ h).2.2.2.2.2.2.2.2.2.2] at hb
      cases hb
    by_cases hc : tkChk p1 p2 p3 x2.1 kv.1 x4.1 x5.1 x6.1 x7.1 = 0
    · by_cases hq : tkB lt p1 p2 p3 x2.1 kv.1 x4.1 x5.1 x6.1 x7.1 = b
      · simp (dsimp := false) only [go_sem, ↓reduceIte, Nat.reduceEqDiff, Nat.reduceLT, Nat.reduceAdd, Nat.reduceSub, Nat.reduceMul, Nat.reduceLeDiff, reduceCtorEq, Int.reduceNeg, Int.reduceToNat, Int.reduceLT, Int.reduceLE, Int.reduceGE, Int.reduceGT, Int.reduceEq, hb, hc, hq, bytes_eq, a1, a2, b1, b2, b3, b4, rdO]
        exact .inl ⟨_, _, _, _, _, _, _, _, _, _, ⟨tkChk_ok hc zk, hq⟩, rfl⟩
      · simp (dsimp := false) only [go_sem, ↓reduceIte, Nat.reduceEqDiff, Nat.reduceLT, Nat.reduceAdd, Nat.reduceSub, Nat.reduceMul, Nat.reduceLeDiff, reduceCtorEq, Int.reduceNeg, Int.reduceToNat, Int.reduceLT, Int.reduceLE, Int.reduceGE, Int.reduceGT, Int.reduceEq, hb, hc, hq, bytes_eq, a1, a2, b1, b2, b3, b4, rdO]
        refine .inr ⟨fun lt' n i r ad k li is s t h => ?_, by rw [herr]; rfl⟩
        obtain ⟨rfl, rfl, rfl, rfl, rfl, rfl, rfl, rfl, rfl, rfl, _⟩ := key _ _ _ _ _ _ _ _ _ _ h
        exact hq h.2
    · simp (dsimp := false) only [go_sem, ↓reduceIte, Nat.reduceEqDiff, Nat.reduceLT, Nat.reduceAdd, Nat.reduceSub, Nat.reduceMul, Nat.reduceLeDiff, reduceCtorEq, Int.reduceNeg, Int.reduceToNat, Int.reduceLT, Int.reduceLE, Int.reduceGE, Int.reduceGT, Int.reduceEq, hb, hc, a1, a2, b1, b2, b3, b4, rdO]
      refine .inr ⟨fun lt' n i r ad k li is s t h => ?_, by rw [herr]; rfl⟩
      obtain ⟨rfl, rfl, rfl, rfl, rfl, rfl, rfl, rfl, rfl, rfl, _⟩ := key _ _ _ _ _ _ _ _ _ _ h
      exact hc h.1.chk
  · clear g0
    refine AC.of_body (M := [20]) Tryz.func25 rfl (by kernel_rfl) (Nat.le_of_ble_eq_true rfl) ?_; simp only [Tryz.results25, Tryz.ntmps25]
    simp (dsimp := false) only [go_sem, ↓reduceIte, Nat.reduceEqDiff, Nat.reduceLT, Nat.reduceAdd, Nat.reduceSub, Nat.reduceMul, Nat.reduceLeDiff, reduceCtorEq, Int.reduceNeg, Int.reduceToNat, Int.reduceLT, Int.reduceLE, Int.reduceGE, Int.reduceGT, Int.reduceEq, hpos]
    intro k1 hk1 k hk
    have n1 := none_ne hk
    have a1 : ∀ (own : Own) o, (own.set k1 o) k = own k := fun own o => Own.set_ne _ _ n1
    have a2 : ∀ (own : Own) o, (own.set k o) k1 = own k1 := fun own o => Own.set_ne _ _ (Ne.symm n1)
    refine ACs.of (ROctet_own b false (0, false) k _ _ (Own.set_same _ _ _) (Int.le_refl _) (by simp) hn ?_)
    simp (dsimp := false) only [go_sem, ↓reduceIte, Nat.reduceEqDiff, Nat.reduceLT, Nat.reduceAdd, Nat.reduceSub, Nat.reduceMul, Nat.reduceLeDiff, reduceCtorEq, Int.reduceNeg, Int.reduceToNat, Int.reduceLT, Int.reduceLE, Int.reduceGE, Int.reduceGT, Int.reduceEq, ex, hlt, rdO]
    intro k2 hk2
    have n2 := none_ne hk2
    have hk2' := hk2
    rw [Own.set_ne _ _ n2] at hk2'
    have n12 := none_ne hk2'
    have b1 : ∀ (own : Own) o, (own.set k2 o) k = own k := fun own o => Own.set_ne _ _ (Ne.symm n2)
    have b2 : ∀ (own : Own) o, (own.set k o) k2 = own k2 := fun own o => Own.set_ne _ _ n2
    have b3 : ∀ (own : Own) o, (own.set k2 o) k1 = own k1 := fun own o => Own.set_ne _ _ (Ne.symm n12)
    have b4 : ∀ (own : Own) o, (own.set k1 o) k2 = own k2 := fun own o => Own.set_ne _ _ n12
    clear hk hk2 hk2' hk1
    refine ACs.of (RPrincipal_own b lt x0.2 k _ _ (by simp only [a1, a2, b1, b2, b3, b4, Own.set_same, rdO]) hn ?_)
    simp (dsimp := false) only [go_sem, ↓reduceIte, Nat.reduceEqDiff, Nat.reduceLT, Nat.reduceAdd, Nat.reduceSub, Nat.reduceMul, Nat.reduceLeDiff, reduceCtorEq, Int.reduceNeg, Int.reduceToNat, Int.reduceLT, Int.reduceLE, Int.reduceGE, Int.reduceGT, Int.reduceEq, e1, prinA, a1, a2, b1, b2, b3, b4]
    refine ACs.of (RNumber_own b lt s1 k _ _ (by simp only [a1, a2, b1, b2, b3, b4, Own.set_same]) o1.1 o1.2 hn ?_)
    simp (dsimp := false) only [go_sem, ↓reduceIte, Nat.reduceEqDiff, Nat.reduceLT, Nat.reduceAdd, Nat.reduceSub, Nat.reduceMul, Nat.reduceLeDiff, reduceCtorEq, Int.reduceNeg, Int.reduceToNat, Int.reduceLT, Int.reduceLE, Int.reduceGE, Int.reduceGT, Int.reduceEq, e2, a1, a2, b1, b2, b3, b4]
    refine ACs.of (RBytes_own b 8 lt x2.2 k _ _ (by simp only [a1, a2, b1, b2, b3, b4, Own.set_same]) o2.1 o2.2 (by decide) (by decide) hn ?_)
    simp (dsimp := false) only [go_sem, ↓reduceIte, Nat.reduceEqDiff, Nat.reduceLT, Nat.reduceAdd, Nat.reduceSub, Nat.reduceMul, Nat.reduceLeDiff, reduceCtorEq, Int.reduceNeg, Int.reduceToNat, Int.reduceLT, Int.reduceLE, Int.reduceGE, Int.reduceGT, Int.reduceEq, e3, a1, a2, b1, b2, b3, b4]
    refine ACs.pure hK ?_
    simp (dsimp := false) only [go_sem, ↓reduceIte, Nat.reduceEqDiff, Nat.reduceLT, Nat.reduceAdd, Nat.reduceSub, Nat.reduceMul, Nat.reduceLeDiff, reduceCtorEq, Int.reduceNeg, Int.reduceToNat, Int.reduceLT, Int.reduceLE, Int.reduceGE, Int.reduceGT, Int.reduceEq, a1, a2, b1, b2, b3, b4]
    refine ACs.of (ROctet_own b lt y3.2 k _ _ (by simp only [a1, a2, b1, b2, b3, b4, Own.set_same]) o3.1 o3.2 hn ?_)
    simp (dsimp := false) only [go_sem, ↓reduceIte, Nat.reduceEqDiff, Nat.reduceLT, Nat.reduceAdd, Nat.reduceSub, Nat.reduceMul, Nat.reduceLeDiff, reduceCtorEq, Int.reduceNeg, Int.reduceToNat, Int.reduceLT, Int.reduceLE, Int.reduceGE, Int.reduceGT, Int.reduceEq, e4, a1, a2, b1, b2, b3, b4]
    refine ACs.of (RNumber_own b lt x4.2 k _ _ (by simp only [a1, a2, b1, b2, b3, b4, Own.set_same]) o4.1 o4.2 hn ?_)
    simp (dsimp := false) only [go_sem, ↓reduceIte, Nat.reduceEqDiff, Nat.reduceLT, Nat.reduceAdd, Nat.reduceSub, Nat.reduceMul, Nat.reduceLeDiff, reduceCtorEq, Int.reduceNeg, Int.reduceToNat, Int.reduceLT, Int.reduceLE, Int.reduceGE, Int.reduceGT, Int.reduceEq, e5, a1, a2, b1, b2, b3, b4]
    refine ACs.of (RText_own b lt x5.2 k _ _ (by simp only [a1, a2, b1, b2, b3, b4, Own.set_same]) hn ?_)
    simp (dsimp := false) only [go_sem, ↓reduceIte, Nat.reduceEqDiff, Nat.reduceLT, Nat.reduceAdd, Nat.reduceSub, Nat.reduceMul, Nat.reduceLeDiff, reduceCtorEq, Int.reduceNeg, Int.reduceToNat, Int.reduceLT, Int.reduceLE, Int.reduceGE, Int.reduceGT, Int.reduceEq, e6, a1, a2, b1, b2, b3, b4]
    refine ACs.of (RText_own b lt x6.2 k _ _ (by simp only [a1, a2, b1, b2, b3, b4, Own.set_same]) hn ?_)
    simp (dsimp := false) only [go_sem, ↓reduceIte, Nat.reduceEqDiff, Nat.reduceLT, Nat.reduceAdd, Nat.reduceSub, Nat.reduceMul, Nat.reduceLeDiff, reduceCtorEq, Int.reduceNeg, Int.reduceToNat, Int.reduceLT, Int.reduceLE, Int.reduceGE, Int.reduceGT, Int.reduceEq, e7, a1, a2, b1, b2, b3, b4]
    refine ACs.pure hE ?_
    rcases Bool.eq_false_or_eq_true x7.2.2 with hb | hb
    · simp (dsimp := false) only [go_sem, ↓reduceIte, Nat.reduceEqDiff, Nat.reduceLT, Nat.reduceAdd, Nat.reduceSub, Nat.reduceMul, Nat.reduceLeDiff, reduceCtorEq, Int.reduceNeg, Int.reduceToNat, Int.reduceLT, Int.reduceLE, Int.reduceGE, Int.reduceGT, Int.reduceEq, hb, a1, a2, b1, b2, b3, b4, rdO]
      refine .inr ⟨fun lt' n i r ad k li is s t h => ?_, by rw [herr]; rfl⟩
      rw [(key _ _ _ _ _ _ _ _ _ _ h).2.2.2.2.2.2.2.2.2.2] at hb
      cases hb
    by_cases hc : tkChk p1 p2 p3 x2.1 kv.1 x4.1 x5.1 x6.1 x7.1 = 0
    · by_cases hq : tkB lt p1 p2 p3 x2.1 kv.1 x4.1 x5.1 x6.1 x7.1 = b
      · simp (dsimp := false) only [go_sem, ↓reduceIte, Nat.reduceEqDiff, Nat.reduceLT, Nat.reduceAdd, Nat.reduceSub, Nat.reduceMul, Nat.reduceLeDiff, reduceCtorEq, Int.reduceNeg, Int.reduceToNat, Int.reduceLT, Int.reduceLE, Int.reduceGE, Int.reduceGT, Int.reduceEq, hb, hc, hq, bytes_eq, a1, a2, b1, b2, b3, b4, rdO]
        exact .inl ⟨_, _, _, _, _, _, _, _, _, _, ⟨tkChk_ok hc zk, hq⟩, rfl⟩
      · simp (dsimp := false) only [go_sem, ↓reduceIte, Nat.reduceEqDiff, Nat.reduceLT, Nat.reduceAdd, Nat.reduceSub, Nat.reduceMul, Nat.reduceLeDiff, reduceCtorEq, Int.reduceNeg, Int.reduceToNat, Int.reduceLT, Int.reduceLE, Int.reduceGE, Int.reduceGT, Int.reduceEq, hb, hc, hq, bytes_eq, a1, a2, b1, b2, b3, b4, rdO]
        refine .inr ⟨fun lt' n i r ad k li is s t h => ?_, by rw [herr]; rfl⟩
        obtain ⟨rfl, rfl, rfl, rfl, rfl, rfl, rfl, rfl, rfl, rfl, _⟩ := key _ _ _ _ _ _ _ _ _ _ h
        exact hq h.2
    · simp (dsimp := false) only [go_sem, ↓reduceIte, Nat.reduceEqDiff, Nat.reduceLT, Nat.reduceAdd, Nat.reduceSub, Nat.reduceMul, Nat.reduceLeDiff, reduceCtorEq, Int.reduceNeg, Int.reduceToNat, Int.reduceLT, Int.reduceLE, Int.reduceGE, Int.reduceGT, Int.reduceEq, hb, hc, a1, a2, b1, b2, b3, b4, rdO]
      refine .inr ⟨fun lt' n i r ad k li is s t h => ?_, by rw [herr]; rfl⟩
      obtain ⟨rfl, rfl, rfl, rfl, rfl, rfl, rfl, rfl, rfl, rfl, _⟩ := key _ _ _ _ _ _ _ _ _ _ h
      exact hc h.1.chk
end Go.Proofs.YtaokfnfaipdpdaaGreat.Fn
