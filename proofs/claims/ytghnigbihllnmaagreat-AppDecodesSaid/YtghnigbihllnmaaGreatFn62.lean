/- Messages to services, as the reference reads them. -/
import Derived.Test.YtghnigbihllnmaaGreatFn60
import Derived.Test.YtghnigbihllnmaaGreatFn49
set_option linter.unusedVariables false
set_option linter.unusedSimpArgs false
namespace Go.Proofs.YtghnigbihllnmaaGreat.Fn
open Go Hl Sp Ty
set_option maxRecDepth 100000
theorem hdIs4 {b : List UInt8} {lt : Bool} (h : hdIs b [3, 4] = (lt, 0)) : (hdR b).2.2 = 0 ∧ decide ((hdR b).1 = 4) = decide ((hdIs b [4]).2 = 0) := by
  have h0 : (hdR b).2.2 = 0 := by
    by_cases h1 : (hdR b).2.2 = 0
    · exact h1
    · rw [hdIs, if_pos h1] at h
      exact absurd (congrArg Prod.snd h) h1
  refine ⟨h0, ?_⟩
  rw [hdIs, if_neg (fun e => e h0)]
  by_cases h4 : (hdR b).1 = 4
  · rw [if_pos (by rw [h4]; decide), decide_eq_true h4]; rfl
  · rw [if_neg (by simpa using h4), decide_eq_false h4]; rfl
set_option maxHeartbeats 4000000 in
theorem rfront_own (b : List UInt8) (lt mu : Bool) (own : Own) (K : AV → Own → Prop) (o0 : (2 : Int) ≤ b.length) (hn : b.length ≤ 140737488355000)
    (x1 x3 x4 : Int × Int × Bool) (x2 : ByteArray × Int × Bool) (x5 x6 : List UInt8 × Int × Bool)
    (e1 : rNum b 1 false (2, false) = x1) (e2 : rTxt b x1.2 = x2) (e3 : rNum b 1 false x2.2 = x3) (e4 : rNum b 1 false x3.2 = x4) (e5 : rByt b x3.1 x4.2 = x5) (e6 : rByt b x4.1 x5.2 = x6)
    (h : ∀ k, own k = none → K (.tup [.st [.raw (.bool lt), .raw (.bool mu), .raw (.int .i64 x1.1), .raw (.string x2.1), .lst 1 (x5.1.map byteA), .lst 1 (x6.1.map byteA)], .raw (.pointer (some ⟨k, 0, none⟩))]) (own.set k (rdO b lt x6.2))) :
    AC Tryz.prog 104 [.lst 1 (b.map byteA), .raw (.bool lt), .raw (.bool mu)] own K := by
  refine AC.post (K := fun d own1 => ∃ k, own k = none ∧ d = .tup [.st [.raw (.bool lt), .raw (.bool mu), .raw (.int .i64 x1.1), .raw (.string x2.1), .lst 1 (x5.1.map byteA), .lst 1 (x6.1.map byteA)], .raw (.pointer (some ⟨k, 0, none⟩))] ∧ Sub (own.set k (rdO b lt x6.2)) own1) ?_ (fun d own1 ⟨k, hk, e, hs⟩ => ⟨_, own.set k (rdO b lt x6.2), e ▸ Weak1.drop hs, h k hk⟩)
  have o1 : 0 ≤ x1.2.1 ∧ x1.2.1 ≤ b.length := by rw [← e1]; exact rNum_ok (by decide) o0
  have o2 : 0 ≤ x2.2.1 ∧ x2.2.1 ≤ b.length := by rw [← e2]; exact rTxt_ok o1.1 o1.2
  have o3 : 0 ≤ x3.2.1 ∧ x3.2.1 ≤ b.length := by rw [← e3]; exact rNum_ok o2.1 o2.2
  have o4 : 0 ≤ x4.2.1 ∧ x4.2.1 ≤ b.length := by rw [← e4]; exact rNum_ok o3.1 o3.2
  have hp5 : 0 ≤ x3.1 := by rw [← e3]; exact rNum_nn _ _ _ _
  have hq5 : x3.1 ≤ 65535 := by rw [← e3]; exact rNum_le _ _ _ _ (by decide)
  have hp6 : 0 ≤ x4.1 := by rw [← e4]; exact rNum_nn _ _ _ _
  have hq6 : x4.1 ≤ 65535 := by rw [← e4]; exact rNum_le _ _ _ _ (by decide)
  have o5 : 0 ≤ x5.2.1 ∧ x5.2.1 ≤ b.length := by rw [← e5]; exact rByt_ok o4.1 o4.2 hp5
  refine AC.of_body (M := [15]) Tryz.func104 rfl (by kernel_rfl) (Nat.le_of_ble_eq_true rfl) ?_; simp only [Tryz.results104, Tryz.ntmps104]
  simp (dsimp := false) only [go_sem, ↓reduceIte, Nat.reduceEqDiff, Nat.reduceLT, Nat.reduceAdd, Nat.reduceSub, Nat.reduceMul, Nat.reduceLeDiff, reduceCtorEq, Int.reduceNeg, Int.reduceToNat, Int.reduceLT, Int.reduceLE, Int.reduceGE, Int.reduceGT, Int.reduceEq]
  intro k1 hk1 k hk k2 hk2
  have n1 := none_ne hk
  have hk0 := hk
  rw [Own.set_ne _ _ n1] at hk0
  have n2 := none_ne hk2
  have hk2' := hk2
  rw [Own.set_ne _ _ n2] at hk2'
  have n12 := none_ne hk2'
  rw [Own.set_ne _ _ n12] at hk2'
  have a1 : ∀ (own : Own) o, (own.set k1 o) k = own k := fun own o => Own.set_ne _ _ n1
  have a2 : ∀ (own : Own) o, (own.set k o) k1 = own k1 := fun own o => Own.set_ne _ _ (Ne.symm n1)
  have b1 : ∀ (own : Own) o, (own.set k2 o) k = own k := fun own o => Own.set_ne _ _ (Ne.symm n2)
  have b2 : ∀ (own : Own) o, (own.set k o) k2 = own k2 := fun own o => Own.set_ne _ _ n2
  have b3 : ∀ (own : Own) o, (own.set k2 o) k1 = own k1 := fun own o => Own.set_ne _ _ (Ne.symm n12)
  have b4 : ∀ (own : Own) o, (own.set k1 o) k2 = own k2 := fun own o => Own.set_ne _ _ n12
  refine ACs.of (ROctet_own b lt (2, false) k _ _ (by simp only [a1, a2, b1, b2, b3, b4, Own.set_same, rdO]) (by decide) o0 hn ?_)
  simp (dsimp := false) only [go_sem, ↓reduceIte, Nat.reduceEqDiff, Nat.reduceLT, Nat.reduceAdd, Nat.reduceSub, Nat.reduceMul, Nat.reduceLeDiff, reduceCtorEq, Int.reduceNeg, Int.reduceToNat, Int.reduceLT, Int.reduceLE, Int.reduceGE, Int.reduceGT, Int.reduceEq, e1, a1, a2, b1, b2, b3, b4]
  refine ACs.of (RText_own b lt x1.2 k _ _ (by simp only [a1, a2, b1, b2, b3, b4, Own.set_same]) hn ?_)
  simp (dsimp := false) only [go_sem, ↓reduceIte, Nat.reduceEqDiff, Nat.reduceLT, Nat.reduceAdd, Nat.reduceSub, Nat.reduceMul, Nat.reduceLeDiff, reduceCtorEq, Int.reduceNeg, Int.reduceToNat, Int.reduceLT, Int.reduceLE, Int.reduceGE, Int.reduceGT, Int.reduceEq, e2, a1, a2, b1, b2, b3, b4]
  refine ACs.of (ROctet_own b lt x2.2 k _ _ (by simp only [a1, a2, b1, b2, b3, b4, Own.set_same]) o2.1 o2.2 hn ?_)
  simp (dsimp := false) only [go_sem, ↓reduceIte, Nat.reduceEqDiff, Nat.reduceLT, Nat.reduceAdd, Nat.reduceSub, Nat.reduceMul, Nat.reduceLeDiff, reduceCtorEq, Int.reduceNeg, Int.reduceToNat, Int.reduceLT, Int.reduceLE, Int.reduceGE, Int.reduceGT, Int.reduceEq, e3, a1, a2, b1, b2, b3, b4]
  refine ACs.of (ROctet_own b lt x3.2 k _ _ (by simp only [a1, a2, b1, b2, b3, b4, Own.set_same]) o3.1 o3.2 hn ?_)
  simp (dsimp := false) only [go_sem, ↓reduceIte, Nat.reduceEqDiff, Nat.reduceLT, Nat.reduceAdd, Nat.reduceSub, Nat.reduceMul, Nat.reduceLeDiff, reduceCtorEq, Int.reduceNeg, Int.reduceToNat, Int.reduceLT, Int.reduceLE, Int.reduceGE, Int.reduceGT, Int.reduceEq, e4, a1, a2, b1, b2, b3, b4]
  refine ACs.of (RBytes_own b x3.1 lt x4.2 k _ _ (by simp only [a1, a2, b1, b2, b3, b4, Own.set_same]) o4.1 o4.2 hp5 (by omega) hn ?_)
  simp (dsimp := false) only [go_sem, ↓reduceIte, Nat.reduceEqDiff, Nat.reduceLT, Nat.reduceAdd, Nat.reduceSub, Nat.reduceMul, Nat.reduceLeDiff, reduceCtorEq, Int.reduceNeg, Int.reduceToNat, Int.reduceLT, Int.reduceLE, Int.reduceGE, Int.reduceGT, Int.reduceEq, e5, a1, a2, b1, b2, b3, b4]
  refine ACs.of (RBytes_own b x4.1 lt x5.2 k _ _ (by simp only [a1, a2, b1, b2, b3, b4, Own.set_same]) o5.1 o5.2 hp6 (by omega) hn ?_)
  simp (dsimp := false) only [go_sem, ↓reduceIte, Nat.reduceEqDiff, Nat.reduceLT, Nat.reduceAdd, Nat.reduceSub, Nat.reduceMul, Nat.reduceLeDiff, reduceCtorEq, Int.reduceNeg, Int.reduceToNat, Int.reduceLT, Int.reduceLE, Int.reduceGE, Int.reduceGT, Int.reduceEq, e6, a1, a2, b1, b2, b3, b4]
  refine ⟨k, hk0, rfl, ?_⟩
  intro j q hj
  by_cases f0 : j = k
  · subst f0
    simp only [a1, a2, b1, b2, b3, b4, Own.set_same] at hj ⊢
    exact hj
  · have s0 : ∀ (own : Own) o, (own.set k o) j = own j := fun own o => Own.set_ne _ _ f0
    simp only [s0] at hj
    have f1 : j ≠ k1 := fun e => by rw [e, hk1] at hj; cases hj
    have f2 : j ≠ k2 := fun e => by rw [e, hk2'] at hj; cases hj
    have s1 : ∀ (own : Own) o, (own.set k1 o) j = own j := fun own o => Own.set_ne _ _ f1
    have s2 : ∀ (own : Own) o, (own.set k2 o) j = own j := fun own o => Own.set_ne _ _ f2
    simp only [s0, s1, s2]
    exact hj
set_option maxHeartbeats 8000000 in
theorem rapDecode_pn (b : List UInt8) (hn : b.length ≤ 140737488355000) : PN Tryz.prog 34 [.lst 1 (b.map byteA)] (apDec b) := by
  refine PN.post ?_
  obtain ⟨⟨lt, e⟩, hI⟩ : ∃ x, hdIs b [3, 4] = x := ⟨_, rfl⟩
  have hP := rhdIs_pure b [3, 4] hn (by simp)
  rw [hI] at hP
  simp only [List.map_cons, List.map_nil, iA] at hP
  have hR0 := rhdRead_pure b hn
  by_cases he : e = 0
  rotate_left
  · refine AC.of_body (M := []) Tryz.func34 rfl (by kernel_rfl) (Nat.le_of_ble_eq_true rfl) ?_; simp only [Tryz.results34, Tryz.ntmps34]
    simp (dsimp := false) only [go_sem, ↓reduceIte, Nat.reduceEqDiff, Nat.reduceLT, Nat.reduceAdd, Nat.reduceSub, Nat.reduceMul, Nat.reduceLeDiff, reduceCtorEq, Int.reduceNeg, Int.reduceToNat, Int.reduceLT, Int.reduceLE, Int.reduceGE, Int.reduceGT, Int.reduceEq]
    intro k1 hk1
    refine ACs.pure hP ?_
    simp (dsimp := false) only [go_sem, ↓reduceIte, Nat.reduceEqDiff, Nat.reduceLT, Nat.reduceAdd, Nat.reduceSub, Nat.reduceMul, Nat.reduceLeDiff, reduceCtorEq, Int.reduceNeg, Int.reduceToNat, Int.reduceLT, Int.reduceLE, Int.reduceGE, Int.reduceGT, Int.reduceEq, he]
    refine ⟨.tup [apZ, .raw (.int .i64 e)], _, apZ_weak, .inr ⟨fun lt' mu' kv' r' tk' au' h => ?_, by rw [apErr, hI, if_neg he]⟩⟩
    have := hI.symm.trans h.hd
    simp only [Prod.mk.injEq] at this
    exact he this.2
  · subst he
    have herr : apErr b = 100 := by rw [apErr, hI]; rfl
    have o0 : 0 ≤ ((2 : Int), false).1 ∧ ((2 : Int), false).1 ≤ b.length := ⟨by decide, hdIs_len hI⟩
    obtain ⟨mu, hM⟩ : ∃ m, decide ((hdIs b [4]).2 = 0) = m := ⟨_, rfl⟩
    have hMR := (hdIs4 hI).2.trans hM
    obtain ⟨x1, e1⟩ : ∃ x, rNum b 1 false (2, false) = x := ⟨_, rfl⟩
    have o1 : 0 ≤ x1.2.1 ∧ x1.2.1 ≤ b.length := by rw [← e1]; exact rNum_ok o0.1 o0.2
    obtain ⟨x2, e2⟩ : ∃ x, rTxt b x1.2 = x := ⟨_, rfl⟩
    have o2 : 0 ≤ x2.2.1 ∧ x2.2.1 ≤ b.length := by rw [← e2]; exact rTxt_ok o1.1 o1.2
    have z2 : x2.1.size ≤ 39 := by rw [← e2]; exact rTxt_small _ _
    obtain ⟨x3, e3⟩ : ∃ x, rNum b 1 false x2.2 = x := ⟨_, rfl⟩
    have o3 : 0 ≤ x3.2.1 ∧ x3.2.1 ≤ b.length := by rw [← e3]; exact rNum_ok o2.1 o2.2
    obtain ⟨x4, e4⟩ : ∃ x, rNum b 1 false x3.2 = x := ⟨_, rfl⟩
    have o4 : 0 ≤ x4.2.1 ∧ x4.2.1 ≤ b.length := by rw [← e4]; exact rNum_ok o3.1 o3.2
    obtain ⟨x5, e5⟩ : ∃ x, rByt b x3.1 x4.2 = x := ⟨_, rfl⟩
    have hp5 : 0 ≤ x3.1 := by rw [← e3]; exact rNum_nn _ _ _ _
    have hq5 : x3.1 ≤ 65535 := by rw [← e3]; exact rNum_le _ _ _ _ (by decide)
    have o5 : 0 ≤ x5.2.1 ∧ x5.2.1 ≤ b.length := by rw [← e5]; exact rByt_ok o4.1 o4.2 hp5
    have zl5 : x5.1.length ≤ 65535 := by rw [← e5]; exact rByt_le _ _ _ () (by omega)
    obtain ⟨x6, e6⟩ : ∃ x, rByt b x4.1 x5.2 = x := ⟨_, rfl⟩
    have hp6 : 0 ≤ x4.1 := by rw [← e4]; exact rNum_nn _ _ _ _
    have hq6 : x4.1 ≤ 65535 := by rw [← e4]; exact rNum_le _ _ _ _ (by decide)
    have o6 : 0 ≤ x6.2.1 ∧ x6.2.1 ≤ b.length := by rw [← e6]; exact rByt_ok o5.1 o5.2 hp6
    have zl6 : x6.1.length ≤ 65535 := by rw [← e6]; exact rByt_le _ _ _ () (by omega)
    have hR : apRr b lt (2, false) = (x1.1, x2.1, x3.1, x4.1, x5.1, x6.1, x6.2.2) := by simp only [apRr, e1, e2, e3, e4, e5, e6]
    have hE := rapEncode_pure lt mu x1.1 x2.1 x5.1 x6.1 (by omega) (by omega) (by omega)
    unfold apA apE at hE
    have key : ∀ lt' mu' kv' r' tk' au', apIs b lt' mu' kv' r' tk' au' → lt' = lt ∧ mu' = mu ∧ kv' = x1.1 ∧ r' = x2.1 ∧ tk' = x5.1 ∧ au' = x6.1 ∧ x6.2.2 = false := fun lt' mu' kv' r' tk' au' h => by
      have hl : lt' = lt := by have := hI.symm.trans h.hd; simp only [Prod.mk.injEq] at this; exact this.1.symm
      subst hl
      have := h.rread.symm.trans hR
      simp only [Prod.mk.injEq] at this
      obtain ⟨a0, a1, a2, a3, a4, a5, j⟩ := this
      exact ⟨rfl, (h.mu.symm.trans hM), a0, a1, a4, a5, j.symm⟩
    refine AC.of_body (M := []) Tryz.func34 rfl (by kernel_rfl) (Nat.le_of_ble_eq_true rfl) ?_; simp only [Tryz.results34, Tryz.ntmps34]
    simp (dsimp := false) only [go_sem, ↓reduceIte, Nat.reduceEqDiff, Nat.reduceLT, Nat.reduceAdd, Nat.reduceSub, Nat.reduceMul, Nat.reduceLeDiff, reduceCtorEq, Int.reduceNeg, Int.reduceToNat, Int.reduceLT, Int.reduceLE, Int.reduceGE, Int.reduceGT, Int.reduceEq]
    intro k1 hk1
    refine ACs.pure hP ?_
    simp (dsimp := false) only [go_sem, ↓reduceIte, Nat.reduceEqDiff, Nat.reduceLT, Nat.reduceAdd, Nat.reduceSub, Nat.reduceMul, Nat.reduceLeDiff, reduceCtorEq, Int.reduceNeg, Int.reduceToNat, Int.reduceLT, Int.reduceLE, Int.reduceGE, Int.reduceGT, Int.reduceEq]
    refine ACs.pure hR0 ?_
    simp (dsimp := false) only [go_sem, ↓reduceIte, Nat.reduceEqDiff, Nat.reduceLT, Nat.reduceAdd, Nat.reduceSub, Nat.reduceMul, Nat.reduceLeDiff, reduceCtorEq, Int.reduceNeg, Int.reduceToNat, Int.reduceLT, Int.reduceLE, Int.reduceGE, Int.reduceGT, Int.reduceEq, hMR]
    refine ACs.of (rfront_own b lt mu _ _ o0.2 hn x1 x3 x4 x2 x5 x6 e1 e2 e3 e4 e5 e6 fun k hk => ?_)
    have n1 := none_ne hk
    have a1 : ∀ (own : Own) o, (own.set k1 o) k = own k := fun own o => Own.set_ne _ _ n1
    have a2 : ∀ (own : Own) o, (own.set k o) k1 = own k1 := fun own o => Own.set_ne _ _ (Ne.symm n1)
    simp (dsimp := false) only [go_sem, ↓reduceIte, Nat.reduceEqDiff, Nat.reduceLT, Nat.reduceAdd, Nat.reduceSub, Nat.reduceMul, Nat.reduceLeDiff, reduceCtorEq, Int.reduceNeg, Int.reduceToNat, Int.reduceLT, Int.reduceLE, Int.reduceGE, Int.reduceGT, Int.reduceEq, a1, a2]
    intro k2 hk2
    have n2 := none_ne hk2
    have hk2' := hk2
    rw [Own.set_ne _ _ n2] at hk2'
    have n12 := none_ne hk2'
    have b1 : ∀ (own : Own) o, (own.set k2 o) k = own k := fun own o => Own.set_ne _ _ (Ne.symm n2)
    have b2 : ∀ (own : Own) o, (own.set k o) k2 = own k2 := fun own o => Own.set_ne _ _ n2
    have b3 : ∀ (own : Own) o, (own.set k2 o) k1 = own k1 := fun own o => Own.set_ne _ _ (Ne.symm n12)
    have b4 : ∀ (own : Own) o, (own.set k1 o) k2 = own k2 := fun own o => Own.set_ne _ _ n12
    clear hk2 hk2' hk hk1
    (try simp (dsimp := false) only [go_sem, ↓reduceIte, Nat.reduceEqDiff, Nat.reduceLT, Nat.reduceAdd, Nat.reduceSub, Nat.reduceMul, Nat.reduceLeDiff, reduceCtorEq, Int.reduceNeg, Int.reduceToNat, Int.reduceLT, Int.reduceLE, Int.reduceGE, Int.reduceGT, Int.reduceEq, a1, a2, b1, b2, b3, b4, rdO])
    refine ACs.pure hE ?_
    (try simp (dsimp := false) only [go_sem, ↓reduceIte, Nat.reduceEqDiff, Nat.reduceLT, Nat.reduceAdd, Nat.reduceSub, Nat.reduceMul, Nat.reduceLeDiff, reduceCtorEq, Int.reduceNeg, Int.reduceToNat, Int.reduceLT, Int.reduceLE, Int.reduceGE, Int.reduceGT, Int.reduceEq, a1, a2, b1, b2, b3, b4, rdO])
    rcases Bool.eq_false_or_eq_true x6.2.2 with hb | hb
    · simp (dsimp := false) only [go_sem, ↓reduceIte, Nat.reduceEqDiff, Nat.reduceLT, Nat.reduceAdd, Nat.reduceSub, Nat.reduceMul, Nat.reduceLeDiff, reduceCtorEq, Int.reduceNeg, Int.reduceToNat, Int.reduceLT, Int.reduceLE, Int.reduceGE, Int.reduceGT, Int.reduceEq, hb, a1, a2, b1, b2, b3, b4, rdO]
      refine ⟨.tup [apZ, .raw (.int .i64 100)], _, apZ_weak, .inr ⟨fun lt' mu' kv' r' tk' au' h => ?_, by rw [herr]⟩⟩
      rw [(key _ _ _ _ _ _ h).2.2.2.2.2.2] at hb
      cases hb
    by_cases hc : apChk lt mu x1.1 x2.1 x5.1 x6.1 = 0
    · simp only [hc, if_true]
      by_cases hq : apB lt mu x1.1 x2.1 x5.1 x6.1 = b
      · simp (dsimp := false) only [go_sem, ↓reduceIte, Nat.reduceEqDiff, Nat.reduceLT, Nat.reduceAdd, Nat.reduceSub, Nat.reduceMul, Nat.reduceLeDiff, reduceCtorEq, Int.reduceNeg, Int.reduceToNat, Int.reduceLT, Int.reduceLE, Int.reduceGE, Int.reduceGT, Int.reduceEq, hb, hc, hq, bytes_eq, a1, a2, b1, b2, b3, b4, rdO]
        exact ⟨_, _, Weak1.refl _ _, .inl ⟨_, _, _, _, _, _, ⟨hc, hq⟩, rfl⟩⟩
      · simp (dsimp := false) only [go_sem, ↓reduceIte, Nat.reduceEqDiff, Nat.reduceLT, Nat.reduceAdd, Nat.reduceSub, Nat.reduceMul, Nat.reduceLeDiff, reduceCtorEq, Int.reduceNeg, Int.reduceToNat, Int.reduceLT, Int.reduceLE, Int.reduceGE, Int.reduceGT, Int.reduceEq, hb, hc, hq, bytes_eq, a1, a2, b1, b2, b3, b4, rdO]
        refine ⟨.tup [apZ, .raw (.int .i64 100)], _, apZ_weak, .inr ⟨fun lt' mu' kv' r' tk' au' h => ?_, by rw [herr]⟩⟩
        obtain ⟨rfl, rfl, rfl, rfl, rfl, rfl, _⟩ := key _ _ _ _ _ _ h
        exact hq h.2
    · simp (dsimp := false) only [go_sem, ↓reduceIte, Nat.reduceEqDiff, Nat.reduceLT, Nat.reduceAdd, Nat.reduceSub, Nat.reduceMul, Nat.reduceLeDiff, reduceCtorEq, Int.reduceNeg, Int.reduceToNat, Int.reduceLT, Int.reduceLE, Int.reduceGE, Int.reduceGT, Int.reduceEq, hb, hc, a1, a2, b1, b2, b3, b4, rdO]
      refine ⟨.tup [apZ, .raw (.int .i64 100)], _, apZ_weak, .inr ⟨fun lt' mu' kv' r' tk' au' h => ?_, by rw [herr]⟩⟩
      obtain ⟨rfl, rfl, rfl, rfl, rfl, rfl, _⟩ := key _ _ _ _ _ _ h
      exact hc (apOk_chk h.1)
set_option maxHeartbeats 8000000 in
theorem rtgsDecode_pn (b : List UInt8) (hn : b.length ≤ 140737488355000) : PN Tryz.prog 37 [.lst 1 (b.map byteA)] (tgsDec b) := by
  refine PN.post ?_
  obtain ⟨⟨lt, e⟩, hI⟩ : ∃ x, hdIs b [3] = x := ⟨_, rfl⟩
  have hP := rhdIs_pure b [3] hn (by simp)
  rw [hI] at hP
  simp only [List.map_cons, List.map_nil, iA] at hP
  have hR0 := rhdRead_pure b hn
  by_cases he : e = 0
  rotate_left
  · refine AC.of_body (M := []) Tryz.func37 rfl (by kernel_rfl) (Nat.le_of_ble_eq_true rfl) ?_; simp only [Tryz.results37, Tryz.ntmps37]
    simp (dsimp := false) only [go_sem, ↓reduceIte, Nat.reduceEqDiff, Nat.reduceLT, Nat.reduceAdd, Nat.reduceSub, Nat.reduceMul, Nat.reduceLeDiff, reduceCtorEq, Int.reduceNeg, Int.reduceToNat, Int.reduceLT, Int.reduceLE, Int.reduceGE, Int.reduceGT, Int.reduceEq]
    intro k1 hk1
    refine ACs.pure hP ?_
    simp (dsimp := false) only [go_sem, ↓reduceIte, Nat.reduceEqDiff, Nat.reduceLT, Nat.reduceAdd, Nat.reduceSub, Nat.reduceMul, Nat.reduceLeDiff, reduceCtorEq, Int.reduceNeg, Int.reduceToNat, Int.reduceLT, Int.reduceLE, Int.reduceGE, Int.reduceGT, Int.reduceEq, he]
    refine ⟨.tup [tgsZ, .raw (.int .i64 e)], _, tgsZ_weak, .inr ⟨fun lt' mu' kv' r' tk' au' tm' li' s' t' h => ?_, by rw [tgsErr, hI, if_neg he]⟩⟩
    have := hI.symm.trans h.hd
    simp only [Prod.mk.injEq] at this
    exact he this.2
  · subst he
    have herr : tgsErr b = 100 := by rw [tgsErr, hI]; rfl
    have o0 : 0 ≤ ((2 : Int), false).1 ∧ ((2 : Int), false).1 ≤ b.length := ⟨by decide, hdIs_len hI⟩
    obtain ⟨mu, hM⟩ : ∃ m, m = false := ⟨_, rfl⟩
    obtain ⟨x1, e1⟩ : ∃ x, rNum b 1 false (2, false) = x := ⟨_, rfl⟩
    have o1 : 0 ≤ x1.2.1 ∧ x1.2.1 ≤ b.length := by rw [← e1]; exact rNum_ok o0.1 o0.2
    obtain ⟨x2, e2⟩ : ∃ x, rTxt b x1.2 = x := ⟨_, rfl⟩
    have o2 : 0 ≤ x2.2.1 ∧ x2.2.1 ≤ b.length := by rw [← e2]; exact rTxt_ok o1.1 o1.2
    have z2 : x2.1.size ≤ 39 := by rw [← e2]; exact rTxt_small _ _
    obtain ⟨x3, e3⟩ : ∃ x, rNum b 1 false x2.2 = x := ⟨_, rfl⟩
    have o3 : 0 ≤ x3.2.1 ∧ x3.2.1 ≤ b.length := by rw [← e3]; exact rNum_ok o2.1 o2.2
    obtain ⟨x4, e4⟩ : ∃ x, rNum b 1 false x3.2 = x := ⟨_, rfl⟩
    have o4 : 0 ≤ x4.2.1 ∧ x4.2.1 ≤ b.length := by rw [← e4]; exact rNum_ok o3.1 o3.2
    obtain ⟨x5, e5⟩ : ∃ x, rByt b x3.1 x4.2 = x := ⟨_, rfl⟩
    have hp5 : 0 ≤ x3.1 := by rw [← e3]; exact rNum_nn _ _ _ _
    have hq5 : x3.1 ≤ 65535 := by rw [← e3]; exact rNum_le _ _ _ _ (by decide)
    have o5 : 0 ≤ x5.2.1 ∧ x5.2.1 ≤ b.length := by rw [← e5]; exact rByt_ok o4.1 o4.2 hp5
    have zl5 : x5.1.length ≤ 65535 := by rw [← e5]; exact rByt_le _ _ _ () (by omega)
    obtain ⟨x6, e6⟩ : ∃ x, rByt b x4.1 x5.2 = x := ⟨_, rfl⟩
    have hp6 : 0 ≤ x4.1 := by rw [← e4]; exact rNum_nn _ _ _ _
    have hq6 : x4.1 ≤ 65535 := by rw [← e4]; exact rNum_le _ _ _ _ (by decide)
    have o6 : 0 ≤ x6.2.1 ∧ x6.2.1 ≤ b.length := by rw [← e6]; exact rByt_ok o5.1 o5.2 hp6
    have zl6 : x6.1.length ≤ 65535 := by rw [← e6]; exact rByt_le _ _ _ () (by omega)
    obtain ⟨x7, e7⟩ : ∃ x, rNum b 4 lt x6.2 = x := ⟨_, rfl⟩
    have o7 : 0 ≤ x7.2.1 ∧ x7.2.1 ≤ b.length := by rw [← e7]; exact rNum_ok o6.1 o6.2
    obtain ⟨x8, e8⟩ : ∃ x, rNum b 1 false x7.2 = x := ⟨_, rfl⟩
    have o8 : 0 ≤ x8.2.1 ∧ x8.2.1 ≤ b.length := by rw [← e8]; exact rNum_ok o7.1 o7.2
    obtain ⟨x9, e9⟩ : ∃ x, rTxt b x8.2 = x := ⟨_, rfl⟩
    have o9 : 0 ≤ x9.2.1 ∧ x9.2.1 ≤ b.length := by rw [← e9]; exact rTxt_ok o8.1 o8.2
    have z9 : x9.1.size ≤ 39 := by rw [← e9]; exact rTxt_small _ _
    obtain ⟨x10, e10⟩ : ∃ x, rTxt b x9.2 = x := ⟨_, rfl⟩
    have o10 : 0 ≤ x10.2.1 ∧ x10.2.1 ≤ b.length := by rw [← e10]; exact rTxt_ok o9.1 o9.2
    have z10 : x10.1.size ≤ 39 := by rw [← e10]; exact rTxt_small _ _
    have hR : tgsRr b lt (2, false) = (x1.1, x2.1, x3.1, x4.1, x5.1, x6.1, x7.1, x8.1, x9.1, x10.1, x10.2.2) := by simp only [tgsRr, e1, e2, e3, e4, e5, e6, e7, e8, e9, e10]
    have hE := rtgsEncode_pure lt false x1.1 x2.1 x5.1 x6.1 x7.1 x8.1 x9.1 x10.1 (by omega) (by omega) (by omega) (by omega) (by omega)
    unfold tgsA tgsE at hE
    have key : ∀ lt' mu' kv' r' tk' au' tm' li' s' t', tgsIs b lt' mu' kv' r' tk' au' tm' li' s' t' → lt' = lt ∧ mu' = false ∧ kv' = x1.1 ∧ r' = x2.1 ∧ tk' = x5.1 ∧ au' = x6.1 ∧ tm' = x7.1 ∧ li' = x8.1 ∧ s' = x9.1 ∧ t' = x10.1 ∧ x10.2.2 = false := fun lt' mu' kv' r' tk' au' tm' li' s' t' h => by
      have hl : lt' = lt := by have := hI.symm.trans h.hd; simp only [Prod.mk.injEq] at this; exact this.1.symm
      subst hl
      have := h.rread.symm.trans hR
      simp only [Prod.mk.injEq] at this
      obtain ⟨a0, a1, a2, a3, a4, a5, a6, a7, a8, a9, j⟩ := this
      exact ⟨rfl, h.mu0, a0, a1, a4, a5, a6, a7, a8, a9, j.symm⟩
    refine AC.of_body (M := []) Tryz.func37 rfl (by kernel_rfl) (Nat.le_of_ble_eq_true rfl) ?_; simp only [Tryz.results37, Tryz.ntmps37]
    simp (dsimp := false) only [go_sem, ↓reduceIte, Nat.reduceEqDiff, Nat.reduceLT, Nat.reduceAdd, Nat.reduceSub, Nat.reduceMul, Nat.reduceLeDiff, reduceCtorEq, Int.reduceNeg, Int.reduceToNat, Int.reduceLT, Int.reduceLE, Int.reduceGE, Int.reduceGT, Int.reduceEq]
    intro k1 hk1
    refine ACs.pure hP ?_
    simp (dsimp := false) only [go_sem, ↓reduceIte, Nat.reduceEqDiff, Nat.reduceLT, Nat.reduceAdd, Nat.reduceSub, Nat.reduceMul, Nat.reduceLeDiff, reduceCtorEq, Int.reduceNeg, Int.reduceToNat, Int.reduceLT, Int.reduceLE, Int.reduceGE, Int.reduceGT, Int.reduceEq]
    refine ACs.of (rfront_own b lt false _ _ o0.2 hn x1 x3 x4 x2 x5 x6 e1 e2 e3 e4 e5 e6 fun k hk => ?_)
    have n1 := none_ne hk
    have a1 : ∀ (own : Own) o, (own.set k1 o) k = own k := fun own o => Own.set_ne _ _ n1
    have a2 : ∀ (own : Own) o, (own.set k o) k1 = own k1 := fun own o => Own.set_ne _ _ (Ne.symm n1)
    simp (dsimp := false) only [go_sem, ↓reduceIte, Nat.reduceEqDiff, Nat.reduceLT, Nat.reduceAdd, Nat.reduceSub, Nat.reduceMul, Nat.reduceLeDiff, reduceCtorEq, Int.reduceNeg, Int.reduceToNat, Int.reduceLT, Int.reduceLE, Int.reduceGE, Int.reduceGT, Int.reduceEq, a1, a2]
    intro k3 hk3 k2 hk2
    have n3 := none_ne hk3
    have hk3' := hk3
    rw [Own.set_ne _ _ n3] at hk3'
    have n13 := none_ne hk3'
    have n23 := none_ne hk2
    have hk2' := hk2
    rw [Own.set_ne _ _ n23] at hk2'
    have n2 := none_ne hk2'
    rw [Own.set_ne _ _ n2] at hk2'
    have n12 := none_ne hk2'
    have b1 : ∀ (own : Own) o, (own.set k2 o) k = own k := fun own o => Own.set_ne _ _ (Ne.symm n2)
    have b2 : ∀ (own : Own) o, (own.set k o) k2 = own k2 := fun own o => Own.set_ne _ _ n2
    have b3 : ∀ (own : Own) o, (own.set k2 o) k1 = own k1 := fun own o => Own.set_ne _ _ (Ne.symm n12)
    have b4 : ∀ (own : Own) o, (own.set k1 o) k2 = own k2 := fun own o => Own.set_ne _ _ n12
    have c1 : ∀ (own : Own) o, (own.set k3 o) k = own k := fun own o => Own.set_ne _ _ (Ne.symm n3)
    have c2 : ∀ (own : Own) o, (own.set k o) k3 = own k3 := fun own o => Own.set_ne _ _ n3
    have c3 : ∀ (own : Own) o, (own.set k3 o) k1 = own k1 := fun own o => Own.set_ne _ _ (Ne.symm n13)
    have c4 : ∀ (own : Own) o, (own.set k1 o) k3 = own k3 := fun own o => Own.set_ne _ _ n13
    have c5 : ∀ (own : Own) o, (own.set k3 o) k2 = own k2 := fun own o => Own.set_ne _ _ n23
    have c6 : ∀ (own : Own) o, (own.set k2 o) k3 = own k3 := fun own o => Own.set_ne _ _ (Ne.symm n23)
    (try simp (dsimp := false) only [go_sem, ↓reduceIte, Nat.reduceEqDiff, Nat.reduceLT, Nat.reduceAdd, Nat.reduceSub, Nat.reduceMul, Nat.reduceLeDiff, reduceCtorEq, Int.reduceNeg, Int.reduceToNat, Int.reduceLT, Int.reduceLE, Int.reduceGE, Int.reduceGT, Int.reduceEq, a1, a2, b1, b2, b3, b4, c1, c2, c3, c4, c5, c6])
    refine ACs.of (RNumber_own b lt x6.2 k _ _ (by simp only [a1, a2, b1, b2, b3, b4, c1, c2, c3, c4, c5, c6, Own.set_same, rdO]) o6.1 o6.2 hn ?_)
    simp (dsimp := false) only [go_sem, ↓reduceIte, Nat.reduceEqDiff, Nat.reduceLT, Nat.reduceAdd, Nat.reduceSub, Nat.reduceMul, Nat.reduceLeDiff, reduceCtorEq, Int.reduceNeg, Int.reduceToNat, Int.reduceLT, Int.reduceLE, Int.reduceGE, Int.reduceGT, Int.reduceEq, e7, a1, a2, b1, b2, b3, b4, c1, c2, c3, c4, c5, c6]
    refine ACs.of (ROctet_own b lt x7.2 k _ _ (by simp only [a1, a2, b1, b2, b3, b4, c1, c2, c3, c4, c5, c6, Own.set_same, rdO]) o7.1 o7.2 hn ?_)
    simp (dsimp := false) only [go_sem, ↓reduceIte, Nat.reduceEqDiff, Nat.reduceLT, Nat.reduceAdd, Nat.reduceSub, Nat.reduceMul, Nat.reduceLeDiff, reduceCtorEq, Int.reduceNeg, Int.reduceToNat, Int.reduceLT, Int.reduceLE, Int.reduceGE, Int.reduceGT, Int.reduceEq, e8, a1, a2, b1, b2, b3, b4, c1, c2, c3, c4, c5, c6]
    refine ACs.of (RText_own b lt x8.2 k _ _ (by simp only [a1, a2, b1, b2, b3, b4, c1, c2, c3, c4, c5, c6, Own.set_same, rdO]) hn ?_)
    simp (dsimp := false) only [go_sem, ↓reduceIte, Nat.reduceEqDiff, Nat.reduceLT, Nat.reduceAdd, Nat.reduceSub, Nat.reduceMul, Nat.reduceLeDiff, reduceCtorEq, Int.reduceNeg, Int.reduceToNat, Int.reduceLT, Int.reduceLE, Int.reduceGE, Int.reduceGT, Int.reduceEq, e9, a1, a2, b1, b2, b3, b4, c1, c2, c3, c4, c5, c6]
    refine ACs.of (RText_own b lt x9.2 k _ _ (by simp only [a1, a2, b1, b2, b3, b4, c1, c2, c3, c4, c5, c6, Own.set_same, rdO]) hn ?_)
    simp (dsimp := false) only [go_sem, ↓reduceIte, Nat.reduceEqDiff, Nat.reduceLT, Nat.reduceAdd, Nat.reduceSub, Nat.reduceMul, Nat.reduceLeDiff, reduceCtorEq, Int.reduceNeg, Int.reduceToNat, Int.reduceLT, Int.reduceLE, Int.reduceGE, Int.reduceGT, Int.reduceEq, e10, a1, a2, b1, b2, b3, b4, c1, c2, c3, c4, c5, c6]
    (try simp (dsimp := false) only [go_sem, ↓reduceIte, Nat.reduceEqDiff, Nat.reduceLT, Nat.reduceAdd, Nat.reduceSub, Nat.reduceMul, Nat.reduceLeDiff, reduceCtorEq, Int.reduceNeg, Int.reduceToNat, Int.reduceLT, Int.reduceLE, Int.reduceGE, Int.reduceGT, Int.reduceEq, a1, a2, b1, b2, b3, b4, c1, c2, c3, c4, c5, c6, rdO])
    refine ACs.pure hE ?_
    (try simp (dsimp := false) only [go_sem, ↓reduceIte, Nat.reduceEqDiff, Nat.reduceLT, Nat.reduceAdd, Nat.reduceSub, Nat.reduceMul, Nat.reduceLeDiff, reduceCtorEq, Int.reduceNeg, Int.reduceToNat, Int.reduceLT, Int.reduceLE, Int.reduceGE, Int.reduceGT, Int.reduceEq, a1, a2, b1, b2, b3, b4, c1, c2, c3, c4, c5, c6, rdO])
    rcases Bool.eq_false_or_eq_true x10.2.2 with hb | hb
    · simp (dsimp := false) only [go_sem, ↓reduceIte, Nat.reduceEqDiff, Nat.reduceLT, Nat.reduceAdd, Nat.reduceSub, Nat.reduceMul, Nat.reduceLeDiff, reduceCtorEq, Int.reduceNeg, Int.reduceToNat, Int.reduceLT, Int.reduceLE, Int.reduceGE, Int.reduceGT, Int.reduceEq, hb, a1, a2, b1, b2, b3, b4, c1, c2, c3, c4, c5, c6, rdO]
      refine ⟨.tup [tgsZ, .raw (.int .i64 100)], _, tgsZ_weak, .inr ⟨fun lt' mu' kv' r' tk' au' tm' li' s' t' h => ?_, by rw [herr]⟩⟩
      rw [(key _ _ _ _ _ _ _ _ _ _ h).2.2.2.2.2.2.2.2.2.2] at hb
      cases hb
    by_cases hc : tgsChk lt false x1.1 x2.1 x5.1 x6.1 x7.1 x8.1 x9.1 x10.1 = 0
    · simp only [hc, if_true]
      by_cases hq : tgsB lt false x1.1 x2.1 x5.1 x6.1 x7.1 x8.1 x9.1 x10.1 = b
      · simp (dsimp := false) only [go_sem, ↓reduceIte, Nat.reduceEqDiff, Nat.reduceLT, Nat.reduceAdd, Nat.reduceSub, Nat.reduceMul, Nat.reduceLeDiff, reduceCtorEq, Int.reduceNeg, Int.reduceToNat, Int.reduceLT, Int.reduceLE, Int.reduceGE, Int.reduceGT, Int.reduceEq, hb, hc, hq, bytes_eq, a1, a2, b1, b2, b3, b4, c1, c2, c3, c4, c5, c6, rdO]
        exact ⟨_, _, Weak1.refl _ _, .inl ⟨_, _, _, _, _, _, _, _, _, _, ⟨hc, hq⟩, rfl⟩⟩
      · simp (dsimp := false) only [go_sem, ↓reduceIte, Nat.reduceEqDiff, Nat.reduceLT, Nat.reduceAdd, Nat.reduceSub, Nat.reduceMul, Nat.reduceLeDiff, reduceCtorEq, Int.reduceNeg, Int.reduceToNat, Int.reduceLT, Int.reduceLE, Int.reduceGE, Int.reduceGT, Int.reduceEq, hb, hc, hq, bytes_eq, a1, a2, b1, b2, b3, b4, c1, c2, c3, c4, c5, c6, rdO]
        refine ⟨.tup [tgsZ, .raw (.int .i64 100)], _, tgsZ_weak, .inr ⟨fun lt' mu' kv' r' tk' au' tm' li' s' t' h => ?_, by rw [herr]⟩⟩
        obtain ⟨rfl, rfl, rfl, rfl, rfl, rfl, rfl, rfl, rfl, rfl, _⟩ := key _ _ _ _ _ _ _ _ _ _ h
        exact hq h.2
    · simp (dsimp := false) only [go_sem, ↓reduceIte, Nat.reduceEqDiff, Nat.reduceLT, Nat.reduceAdd, Nat.reduceSub, Nat.reduceMul, Nat.reduceLeDiff, reduceCtorEq, Int.reduceNeg, Int.reduceToNat, Int.reduceLT, Int.reduceLE, Int.reduceGE, Int.reduceGT, Int.reduceEq, hb, hc, a1, a2, b1, b2, b3, b4, c1, c2, c3, c4, c5, c6, rdO]
      refine ⟨.tup [tgsZ, .raw (.int .i64 100)], _, tgsZ_weak, .inr ⟨fun lt' mu' kv' r' tk' au' tm' li' s' t' h => ?_, by rw [herr]⟩⟩
      obtain ⟨rfl, rfl, rfl, rfl, rfl, rfl, rfl, rfl, rfl, rfl, _⟩ := key _ _ _ _ _ _ _ _ _ _ h
      exact hc (tgsOk_chk h.1)
set_option maxHeartbeats 8000000 in
theorem rmutDecode_pn (b : List UInt8) (lt : Bool) (hn : b.length ≤ 140737488355000) : PN Tryz.prog 40 [.lst 1 (b.map byteA), .raw (.bool lt)] (mutDec b lt) := by
  refine PN.of_ac ?_
  obtain ⟨x0, ex⟩ : ∃ x, rNum b 1 false (0, false) = x := ⟨_, rfl⟩
  have hx : 0 < b.length → x0.2 = (1, false) := fun hp => by
    cases b with
    | nil => simp at hp
    | cons c rest =>
      have := rNum_one [] rest c
      rw [show ([] : List UInt8) ++ (c :: rest) = c :: rest from rfl, show (([] : List UInt8).length : Int) = 0 from rfl, ex] at this
      rw [this]
      rfl
  have hrd : ∀ {ck : Int} {ti : Int} {tm : Int}, mutIs b lt ck ti tm → mutRr b lt x0.2 = (ck, ti, tm, false) := fun h => by
    rw [hx h.flag.2]
    exact h.rread
  have o0 : 0 ≤ x0.2.1 ∧ x0.2.1 ≤ b.length := by rw [← ex]; exact rNum_ok (Int.le_refl _) (by simp)
  obtain ⟨x1, e1⟩ : ∃ x, rNum b 4 lt x0.2 = x := ⟨_, rfl⟩
  have o1 : 0 ≤ x1.2.1 ∧ x1.2.1 ≤ b.length := by rw [← e1]; exact rNum_ok o0.1 o0.2
  obtain ⟨x2, e2⟩ : ∃ x, rNum b 1 false x1.2 = x := ⟨_, rfl⟩
  have o2 : 0 ≤ x2.2.1 ∧ x2.2.1 ≤ b.length := by rw [← e2]; exact rNum_ok o1.1 o1.2
  obtain ⟨x3, e3⟩ : ∃ x, rNum b 4 lt x2.2 = x := ⟨_, rfl⟩
  have o3 : 0 ≤ x3.2.1 ∧ x3.2.1 ≤ b.length := by rw [← e3]; exact rNum_ok o2.1 o2.2
  have hR : mutRr b lt x0.2 = (x1.1, x2.1, x3.1, x3.2.2) := by simp only [mutRr, e1, e2, e3]
  have hE := rmutEncode_pure lt x1.1 x2.1 x3.1 
  unfold mutA mutE at hE
  have key : ∀ ck' ti' tm', mutIs b lt ck' ti' tm' → ck' = x1.1 ∧ ti' = x2.1 ∧ tm' = x3.1 ∧ x3.2.2 = false := fun ck' ti' tm' h => by
    have := (hrd h).symm.trans hR
    simp only [Prod.mk.injEq] at this
    obtain ⟨a0, a1, a2, j⟩ := this
    exact ⟨a0, a1, a2, j.symm⟩
  refine AC.of_body (M := [13]) Tryz.func40 rfl (by kernel_rfl) (Nat.le_of_ble_eq_true rfl) ?_; simp only [Tryz.results40, Tryz.ntmps40]
  simp (dsimp := false) only [go_sem, ↓reduceIte, Nat.reduceEqDiff, Nat.reduceLT, Nat.reduceAdd, Nat.reduceSub, Nat.reduceMul, Nat.reduceLeDiff, reduceCtorEq, Int.reduceNeg, Int.reduceToNat, Int.reduceLT, Int.reduceLE, Int.reduceGE, Int.reduceGT, Int.reduceEq]
  intro k1 hk1 k hk
  have n1 := none_ne hk
  have a1 : ∀ (own : Own) o, (own.set k1 o) k = own k := fun own o => Own.set_ne _ _ n1
  have a2 : ∀ (own : Own) o, (own.set k o) k1 = own k1 := fun own o => Own.set_ne _ _ (Ne.symm n1)
  refine ACs.of (ROctet_own b lt (0, false) k _ _ (Own.set_same _ _ _) (Int.le_refl _) (by simp) hn ?_)
  simp (dsimp := false) only [go_sem, ↓reduceIte, Nat.reduceEqDiff, Nat.reduceLT, Nat.reduceAdd, Nat.reduceSub, Nat.reduceMul, Nat.reduceLeDiff, reduceCtorEq, Int.reduceNeg, Int.reduceToNat, Int.reduceLT, Int.reduceLE, Int.reduceGE, Int.reduceGT, Int.reduceEq, ex, rdO, a1, a2]
  refine ACs.of (RNumber_own b lt x0.2 k _ _ (by simp only [a1, a2, Own.set_same, rdO]) o0.1 o0.2 hn ?_)
  simp (dsimp := false) only [go_sem, ↓reduceIte, Nat.reduceEqDiff, Nat.reduceLT, Nat.reduceAdd, Nat.reduceSub, Nat.reduceMul, Nat.reduceLeDiff, reduceCtorEq, Int.reduceNeg, Int.reduceToNat, Int.reduceLT, Int.reduceLE, Int.reduceGE, Int.reduceGT, Int.reduceEq, e1, a1, a2]
  intro k2 hk2
  have n2 := none_ne hk2
  have hk2' := hk2
  rw [Own.set_ne _ _ n2] at hk2'
  have n12 := none_ne hk2'
  have b1 : ∀ (own : Own) o, (own.set k2 o) k = own k := fun own o => Own.set_ne _ _ (Ne.symm n2)
  have b2 : ∀ (own : Own) o, (own.set k o) k2 = own k2 := fun own o => Own.set_ne _ _ n2
  have b3 : ∀ (own : Own) o, (own.set k2 o) k1 = own k1 := fun own o => Own.set_ne _ _ (Ne.symm n12)
  have b4 : ∀ (own : Own) o, (own.set k1 o) k2 = own k2 := fun own o => Own.set_ne _ _ n12
  clear hk2 hk2' hk hk1
  refine ACs.of (ROctet_own b lt x1.2 k _ _ (by simp only [a1, a2, b1, b2, b3, b4, Own.set_same, rdO]) o1.1 o1.2 hn ?_)
  simp (dsimp := false) only [go_sem, ↓reduceIte, Nat.reduceEqDiff, Nat.reduceLT, Nat.reduceAdd, Nat.reduceSub, Nat.reduceMul, Nat.reduceLeDiff, reduceCtorEq, Int.reduceNeg, Int.reduceToNat, Int.reduceLT, Int.reduceLE, Int.reduceGE, Int.reduceGT, Int.reduceEq, e2, a1, a2, b1, b2, b3, b4]
  refine ACs.of (RNumber_own b lt x2.2 k _ _ (by simp only [a1, a2, b1, b2, b3, b4, Own.set_same, rdO]) o2.1 o2.2 hn ?_)
  simp (dsimp := false) only [go_sem, ↓reduceIte, Nat.reduceEqDiff, Nat.reduceLT, Nat.reduceAdd, Nat.reduceSub, Nat.reduceMul, Nat.reduceLeDiff, reduceCtorEq, Int.reduceNeg, Int.reduceToNat, Int.reduceLT, Int.reduceLE, Int.reduceGE, Int.reduceGT, Int.reduceEq, e3, a1, a2, b1, b2, b3, b4]
  refine ACs.pure hE ?_
  (try simp (dsimp := false) only [go_sem, ↓reduceIte, Nat.reduceEqDiff, Nat.reduceLT, Nat.reduceAdd, Nat.reduceSub, Nat.reduceMul, Nat.reduceLeDiff, reduceCtorEq, Int.reduceNeg, Int.reduceToNat, Int.reduceLT, Int.reduceLE, Int.reduceGE, Int.reduceGT, Int.reduceEq, rdO, a1, a2, b1, b2, b3, b4])
  rcases Bool.eq_false_or_eq_true x3.2.2 with hb | hb
  · simp (dsimp := false) only [go_sem, ↓reduceIte, Nat.reduceEqDiff, Nat.reduceLT, Nat.reduceAdd, Nat.reduceSub, Nat.reduceMul, Nat.reduceLeDiff, reduceCtorEq, Int.reduceNeg, Int.reduceToNat, Int.reduceLT, Int.reduceLE, Int.reduceGE, Int.reduceGT, Int.reduceEq, hb, a1, a2, b1, b2, b3, b4, rdO]
    refine .inr ⟨fun ck' ti' tm' h => ?_, rfl⟩
    rw [(key _ _ _ h).2.2.2] at hb
    cases hb
  by_cases hc : mutChk lt x1.1 x2.1 x3.1 = 0
  · simp only [hc, if_true]
    by_cases hq : mutB lt x1.1 x2.1 x3.1 = b
    · simp (dsimp := false) only [go_sem, ↓reduceIte, Nat.reduceEqDiff, Nat.reduceLT, Nat.reduceAdd, Nat.reduceSub, Nat.reduceMul, Nat.reduceLeDiff, reduceCtorEq, Int.reduceNeg, Int.reduceToNat, Int.reduceLT, Int.reduceLE, Int.reduceGE, Int.reduceGT, Int.reduceEq, hb, hc, hq, bytes_eq, a1, a2, b1, b2, b3, b4, rdO]
      exact .inl ⟨_, _, _, ⟨hc, hq⟩, rfl⟩
    · simp (dsimp := false) only [go_sem, ↓reduceIte, Nat.reduceEqDiff, Nat.reduceLT, Nat.reduceAdd, Nat.reduceSub, Nat.reduceMul, Nat.reduceLeDiff, reduceCtorEq, Int.reduceNeg, Int.reduceToNat, Int.reduceLT, Int.reduceLE, Int.reduceGE, Int.reduceGT, Int.reduceEq, hb, hc, hq, bytes_eq, a1, a2, b1, b2, b3, b4, rdO]
      refine .inr ⟨fun ck' ti' tm' h => ?_, rfl⟩
      obtain ⟨rfl, rfl, rfl, _⟩ := key _ _ _ h
      exact hq h.2
  · simp (dsimp := false) only [go_sem, ↓reduceIte, Nat.reduceEqDiff, Nat.reduceLT, Nat.reduceAdd, Nat.reduceSub, Nat.reduceMul, Nat.reduceLeDiff, reduceCtorEq, Int.reduceNeg, Int.reduceToNat, Int.reduceLT, Int.reduceLE, Int.reduceGE, Int.reduceGT, Int.reduceEq, hb, hc, a1, a2, b1, b2, b3, b4, rdO]
    refine .inr ⟨fun ck' ti' tm' h => ?_, rfl⟩
    obtain ⟨rfl, rfl, rfl, _⟩ := key _ _ _ h
    exact hc (mutOk_chk h.1)
set_option maxHeartbeats 8000000 in
theorem ransDecode_pn (b : List UInt8) (hn : b.length ≤ 140737488355000) : PN Tryz.prog 42 [.lst 1 (b.map byteA)] (ansDec b) := by
  refine PN.post ?_
  obtain ⟨⟨lt, e⟩, hI⟩ : ∃ x, hdIs b [8] = x := ⟨_, rfl⟩
  have hP := rhdIs_pure b [8] hn (by simp)
  rw [hI] at hP
  simp only [List.map_cons, List.map_nil, iA] at hP
  by_cases he : e = 0
  rotate_left
  · refine AC.of_body (M := []) Tryz.func42 rfl (by kernel_rfl) (Nat.le_of_ble_eq_true rfl) ?_; simp only [Tryz.results42, Tryz.ntmps42]
    simp (dsimp := false) only [go_sem, ↓reduceIte, Nat.reduceEqDiff, Nat.reduceLT, Nat.reduceAdd, Nat.reduceSub, Nat.reduceMul, Nat.reduceLeDiff, reduceCtorEq, Int.reduceNeg, Int.reduceToNat, Int.reduceLT, Int.reduceLE, Int.reduceGE, Int.reduceGT, Int.reduceEq]
    refine ACs.pure hP ?_
    simp (dsimp := false) only [go_sem, ↓reduceIte, Nat.reduceEqDiff, Nat.reduceLT, Nat.reduceAdd, Nat.reduceSub, Nat.reduceMul, Nat.reduceLeDiff, reduceCtorEq, Int.reduceNeg, Int.reduceToNat, Int.reduceLT, Int.reduceLE, Int.reduceGE, Int.reduceGT, Int.reduceEq, he]
    refine ⟨.tup [ansZ, .raw (.bool false), .raw (.int .i64 e)], _, Weak1.tup (Weak.one (pre := []) Weak1.nil), .inr ⟨fun lt' x' h => ?_, by rw [ansErr, hI, if_neg he]⟩⟩
    have := hI.symm.trans h.hd
    simp only [Prod.mk.injEq] at this
    exact he this.2
  · subst he
    have herr : ansErr b = 100 := by rw [ansErr, hI]; rfl
    have o0 : 0 ≤ ((2 : Int), false).1 ∧ ((2 : Int), false).1 ≤ b.length := ⟨by decide, hdIs_len hI⟩
    obtain ⟨x1, e1⟩ : ∃ x, rNum b 2 lt (2, false) = x := ⟨_, rfl⟩
    have o1 : 0 ≤ x1.2.1 ∧ x1.2.1 ≤ b.length := by rw [← e1]; exact rNum_ok o0.1 o0.2
    obtain ⟨x2, e2⟩ : ∃ x, rByt b x1.1 x1.2 = x := ⟨_, rfl⟩
    have hp2 : 0 ≤ x1.1 := by rw [← e1]; exact rNum_nn _ _ _ _
    have hq2 : x1.1 ≤ 65535 := by rw [← e1]; exact rNum_le _ _ _ _ (by decide)
    have o2 : 0 ≤ x2.2.1 ∧ x2.2.1 ≤ b.length := by rw [← e2]; exact rByt_ok o1.1 o1.2 hp2
    have zl2 : x2.1.length ≤ 65535 := by rw [← e2]; exact rByt_le _ _ _ () (by omega)
    have hR : ansRr b lt (2, false) = (x1.1, x2.1, x2.2.2) := by simp only [ansRr, e1, e2]
    have hE := ransEncode_pure lt x2.1 (by omega)
    unfold ansA ansE at hE
    have key : ∀ lt' x', ansIs b lt' x' → lt' = lt ∧ x' = x2.1 ∧ x2.2.2 = false := fun lt' x' h => by
      have hl : lt' = lt := by have := hI.symm.trans h.hd; simp only [Prod.mk.injEq] at this; exact this.1.symm
      subst hl
      have := h.rread.symm.trans hR
      simp only [Prod.mk.injEq] at this
      obtain ⟨a0, a1, j⟩ := this
      exact ⟨rfl, a1, j.symm⟩
    refine AC.of_body (M := [20]) Tryz.func42 rfl (by kernel_rfl) (Nat.le_of_ble_eq_true rfl) ?_; simp only [Tryz.results42, Tryz.ntmps42]
    simp (dsimp := false) only [go_sem, ↓reduceIte, Nat.reduceEqDiff, Nat.reduceLT, Nat.reduceAdd, Nat.reduceSub, Nat.reduceMul, Nat.reduceLeDiff, reduceCtorEq, Int.reduceNeg, Int.reduceToNat, Int.reduceLT, Int.reduceLE, Int.reduceGE, Int.reduceGT, Int.reduceEq]
    refine ACs.pure hP ?_
    simp (dsimp := false) only [go_sem, ↓reduceIte, Nat.reduceEqDiff, Nat.reduceLT, Nat.reduceAdd, Nat.reduceSub, Nat.reduceMul, Nat.reduceLeDiff, reduceCtorEq, Int.reduceNeg, Int.reduceToNat, Int.reduceLT, Int.reduceLE, Int.reduceGE, Int.reduceGT, Int.reduceEq]
    intro k hk
    refine ACs.of (RShort_own b lt (2, false) k _ _ (Own.set_same _ _ _) o0.1 o0.2 hn ?_)
    simp (dsimp := false) only [go_sem, ↓reduceIte, Nat.reduceEqDiff, Nat.reduceLT, Nat.reduceAdd, Nat.reduceSub, Nat.reduceMul, Nat.reduceLeDiff, reduceCtorEq, Int.reduceNeg, Int.reduceToNat, Int.reduceLT, Int.reduceLE, Int.reduceGE, Int.reduceGT, Int.reduceEq, e1]
    refine ACs.of (RBytes_own b x1.1 lt x1.2 k _ _ (Own.set_same _ _ _) o1.1 o1.2 hp2 (by omega) hn ?_)
    simp (dsimp := false) only [go_sem, ↓reduceIte, Nat.reduceEqDiff, Nat.reduceLT, Nat.reduceAdd, Nat.reduceSub, Nat.reduceMul, Nat.reduceLeDiff, reduceCtorEq, Int.reduceNeg, Int.reduceToNat, Int.reduceLT, Int.reduceLE, Int.reduceGE, Int.reduceGT, Int.reduceEq, e2, Own.set_same]
    refine ACs.pure hE ?_
    (try simp (dsimp := false) only [go_sem, ↓reduceIte, Nat.reduceEqDiff, Nat.reduceLT, Nat.reduceAdd, Nat.reduceSub, Nat.reduceMul, Nat.reduceLeDiff, reduceCtorEq, Int.reduceNeg, Int.reduceToNat, Int.reduceLT, Int.reduceLE, Int.reduceGE, Int.reduceGT, Int.reduceEq, rdO, Own.set_same])
    rcases Bool.eq_false_or_eq_true x2.2.2 with hb | hb
    · simp (dsimp := false) only [go_sem, ↓reduceIte, Nat.reduceEqDiff, Nat.reduceLT, Nat.reduceAdd, Nat.reduceSub, Nat.reduceMul, Nat.reduceLeDiff, reduceCtorEq, Int.reduceNeg, Int.reduceToNat, Int.reduceLT, Int.reduceLE, Int.reduceGE, Int.reduceGT, Int.reduceEq, hb, rdO, Own.set_same]
      refine ⟨.tup [ansZ, .raw (.bool false), .raw (.int .i64 100)], _, Weak1.tup (Weak.one (pre := []) Weak1.nil), .inr ⟨fun lt' x' h => ?_, by rw [herr]⟩⟩
      rw [(key _ _ h).2.2] at hb
      cases hb
    by_cases hc : ansChk lt x2.1 = 0
    · simp only [hc, if_true]
      by_cases hq : ansB lt x2.1 = b
      · simp (dsimp := false) only [go_sem, ↓reduceIte, Nat.reduceEqDiff, Nat.reduceLT, Nat.reduceAdd, Nat.reduceSub, Nat.reduceMul, Nat.reduceLeDiff, reduceCtorEq, Int.reduceNeg, Int.reduceToNat, Int.reduceLT, Int.reduceLE, Int.reduceGE, Int.reduceGT, Int.reduceEq, hb, hc, hq, bytes_eq, rdO, Own.set_same]
        exact ⟨_, _, Weak1.refl _ _, .inl ⟨_, _, ⟨hc, hq⟩, rfl⟩⟩
      · simp (dsimp := false) only [go_sem, ↓reduceIte, Nat.reduceEqDiff, Nat.reduceLT, Nat.reduceAdd, Nat.reduceSub, Nat.reduceMul, Nat.reduceLeDiff, reduceCtorEq, Int.reduceNeg, Int.reduceToNat, Int.reduceLT, Int.reduceLE, Int.reduceGE, Int.reduceGT, Int.reduceEq, hb, hc, hq, bytes_eq, rdO, Own.set_same]
        refine ⟨.tup [ansZ, .raw (.bool false), .raw (.int .i64 100)], _, Weak1.tup (Weak.one (pre := []) Weak1.nil), .inr ⟨fun lt' x' h => ?_, by rw [herr]⟩⟩
        obtain ⟨rfl, rfl, _⟩ := key _ _ h
        exact hq h.2
    · simp (dsimp := false) only [go_sem, ↓reduceIte, Nat.reduceEqDiff, Nat.reduceLT, Nat.reduceAdd, Nat.reduceSub, Nat.reduceMul, Nat.reduceLeDiff, reduceCtorEq, Int.reduceNeg, Int.reduceToNat, Int.reduceLT, Int.reduceLE, Int.reduceGE, Int.reduceGT, Int.reduceEq, hb, hc, rdO, Own.set_same]
      refine ⟨.tup [ansZ, .raw (.bool false), .raw (.int .i64 100)], _, Weak1.tup (Weak.one (pre := []) Weak1.nil), .inr ⟨fun lt' x' h => ?_, by rw [herr]⟩⟩
      obtain ⟨rfl, rfl, _⟩ := key _ _ h
      exact hc (ansOk_chk h.1)
end Go.Proofs.YtghnigbihllnmaaGreat.Fn
