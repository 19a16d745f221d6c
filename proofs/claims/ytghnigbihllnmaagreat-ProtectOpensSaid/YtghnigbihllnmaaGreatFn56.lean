/- Safe and private messages are taken apart and opened. -/
import Derived.Test.YtghnigbihllnmaaGreatFn55
set_option linter.unusedVariables false
set_option linter.unusedSimpArgs false
namespace Go.Proofs.YtghnigbihllnmaaGreat.Fn
open Go Hl Sp Ty
set_option maxRecDepth 100000
theorem nilT {own : Own} {es : List AV} : Weak1 own (.tup (.raw (.slice none 0 0) :: .raw (.slice none 0 0) :: es)) own (.tup (.lst 1 [] :: .lst 1 [] :: es)) :=
  Weak1.trans (Weak1.tup (Weak.one (pre := []) Weak1.nil)) (Weak1.tup (Weak.one (pre := [.lst 1 []]) Weak1.nil))
theorem nilT1 {own : Own} {es : List AV} : Weak1 own (.tup (.raw (.slice none 0 0) :: es)) own (.tup (.lst 1 [] :: es)) := Weak1.tup (Weak.one (pre := []) Weak1.nil)
theorem safIs.hd2 {b : List UInt8} {lt : Bool} {t x : List UInt8} (h : safIs b lt t x) : hdIs b [6, 7] = (lt, 0) := by
  obtain ⟨_, rfl⟩ := h
  unfold safB
  exact (hdIs_put (by decide) _ _).trans (if_pos (by decide))
theorem safIs.hdr {b : List UInt8} {lt : Bool} {t x : List UInt8} (h : safIs b lt t x) : hdR b = (7, lt, 0) := by
  obtain ⟨_, rfl⟩ := h
  exact hdR_put (by decide) _
theorem prvIs.hd2 {b : List UInt8} {lt : Bool} {x : List UInt8} (h : prvIs b lt x) : hdIs b [6, 7] = (lt, 0) := by
  obtain ⟨_, rfl⟩ := h
  unfold prvB
  exact (hdIs_put (by decide) _ _).trans (if_pos (by decide))
theorem prvIs.hd7 {b : List UInt8} {lt : Bool} {x : List UInt8} (h : prvIs b lt x) : hdIs b [7] = (false, 40) := by
  obtain ⟨_, rfl⟩ := h
  unfold prvB
  exact (hdIs_put (by decide) _ _).trans (if_neg (by decide))
theorem prvIs.hdr {b : List UInt8} {lt : Bool} {x : List UInt8} (h : prvIs b lt x) : hdR b = (6, lt, 0) := by
  obtain ⟨_, rfl⟩ := h
  exact hdR_put (by decide) _
theorem saf_prv {b : List UInt8} {lt lt' : Bool} {t x x' : List UInt8} (h : safIs b lt t x) (h' : prvIs b lt' x') : False := by
  have := h.hd.symm.trans h'.hd7
  simp at this
def ptErr (b : List UInt8) : Int := if (hdIs b [6, 7]).2 = 0 then 100 else (hdIs b [6, 7]).2
theorem ptErr_ne (b : List UInt8) : ptErr b ≠ 0 := by
  unfold ptErr
  split
  · decide
  · assumption
/-- What Parts answers. -/
def PtS (b : List UInt8) (d : AV) : Prop :=
  (∃ lt t x, safIs b lt t x ∧ d = .tup [.lst 1 (t.map byteA), .lst 1 (x.map byteA), .raw (.bool lt), .raw (.int .i64 0)]) ∨
  (∃ lt x, prvIs b lt x ∧ d = .tup [.lst 1 [], .lst 1 (x.map byteA), .raw (.bool lt), .raw (.int .i64 0)]) ∨
  ((∀ lt t x, ¬ safIs b lt t x) ∧ (∀ lt x, ¬ prvIs b lt x) ∧ d = .tup [.lst 1 [], .lst 1 [], .raw (.bool false), .raw (.int .i64 (ptErr b))])
theorem PtS.unique {b : List UInt8} {d d' : AV} (h : PtS b d) (h' : PtS b d') : d = d' := by
  rcases h with ⟨lt, t, x, h1, rfl⟩ | ⟨lt, x, h1, rfl⟩ | ⟨h1, h2, rfl⟩
  · rcases h' with ⟨lt', t', x', h3, rfl⟩ | ⟨lt', x', h3, rfl⟩ | ⟨h3, h4, rfl⟩
    · obtain ⟨rfl, rfl, rfl⟩ := h1.inj h3; rfl
    · exact (saf_prv h1 h3).elim
    · exact absurd h1 (h3 _ _ _)
  · rcases h' with ⟨lt', t', x', h3, rfl⟩ | ⟨lt', x', h3, rfl⟩ | ⟨h3, h4, rfl⟩
    · exact (saf_prv h3 h1).elim
    · obtain ⟨rfl, rfl⟩ := h1.inj h3; rfl
    · exact absurd h1 (h4 _ _)
  · rcases h' with ⟨lt', t', x', h3, rfl⟩ | ⟨lt', x', h3, rfl⟩ | ⟨h3, h4, rfl⟩
    · exact absurd h3 (h1 _ _ _)
    · exact absurd h3 (h2 _ _)
    · rfl
theorem PtS.form {b : List UInt8} {d : AV} (h : PtS b d) : ∃ (t x : List UInt8) (lt : Bool) (e : Int), d = .tup [.lst 1 (t.map byteA), .lst 1 (x.map byteA), .raw (.bool lt), .raw (.int .i64 e)] := by
  rcases h with ⟨lt, t, x, h1, rfl⟩ | ⟨lt, x, h1, rfl⟩ | ⟨h1, h2, rfl⟩
  · exact ⟨_, _, _, _, rfl⟩
  · exact ⟨[], _, _, _, rfl⟩
  · exact ⟨[], [], _, _, rfl⟩
/-- What the opening of a box answers. -/
def OpB (kind : Int) (lt : Bool) (x : List UInt8) (k : Int) (tt : Option (List UInt8)) (d : AV) : Prop :=
  (∃ body y ti ad tm, openR x kind k = some body ∧ (∀ t, tt = some t → body = t) ∧ conIs body lt y ti ad tm ∧ d = .tup [conA lt y ti ad tm, .raw (.int .i64 0)]) ∨
  ((∀ body y ti ad tm, openR x kind k = some body → (∀ t, tt = some t → body = t) → ¬ conIs body lt y ti ad tm) ∧ d = .tup [conZ, .raw (.int .i64 41)])
theorem OpB.unique {kind : Int} {lt : Bool} {x : List UInt8} {k : Int} {tt : Option (List UInt8)} {d d' : AV} (h : OpB kind lt x k tt d) (h' : OpB kind lt x k tt d') : d = d' := by
  rcases h with ⟨body, y, ti, ad, tm, h1, h2, h3, rfl⟩ | ⟨h1, rfl⟩
  · rcases h' with ⟨body', y', ti', ad', tm', g1, g2, g3, rfl⟩ | ⟨g1, rfl⟩
    · rw [h1] at g1
      injection g1 with g1
      subst g1
      obtain ⟨rfl, rfl, rfl, rfl⟩ := h3.inj g3
      rfl
    · exact absurd h3 (g1 _ _ _ _ _ h1 h2)
  · rcases h' with ⟨body', y', ti', ad', tm', g1, g2, g3, rfl⟩ | ⟨g1, rfl⟩
    · exact absurd g3 (h1 _ _ _ _ _ g1 g2)
    · rfl
/-- What OpenSafe and OpenPrivate answer. -/
def opS (safe : Bool) (b : List UInt8) (k : Int) (d : AV) : Prop :=
  (∃ lt t x, safIs b lt t x ∧ ((safe = true ∧ OpB 6 lt x k (some t) d) ∨ (safe = false ∧ d = .tup [conZ, .raw (.int .i64 40)]))) ∨
  (∃ lt x, prvIs b lt x ∧ ((safe = false ∧ OpB 5 lt x k none d) ∨ (safe = true ∧ d = .tup [conZ, .raw (.int .i64 40)]))) ∨
  ((∀ lt t x, ¬ safIs b lt t x) ∧ (∀ lt x, ¬ prvIs b lt x) ∧ d = .tup [conZ, .raw (.int .i64 (ptErr b))])
theorem opS.unique {safe : Bool} {b : List UInt8} {k : Int} {d d' : AV} (h : opS safe b k d) (h' : opS safe b k d') : d = d' := by
  rcases h with ⟨lt, t, x, h1, hh⟩ | ⟨lt, x, h1, hh⟩ | ⟨h1, h2, rfl⟩
  · rcases h' with ⟨lt', t', x', h3, gg⟩ | ⟨lt', x', h3, gg⟩ | ⟨h3, h4, rfl⟩
    · obtain ⟨rfl, rfl, rfl⟩ := h1.inj h3
      rcases hh with ⟨hs, hh⟩ | ⟨hs, rfl⟩
      · rcases gg with ⟨gs, gg⟩ | ⟨gs, rfl⟩
        · exact hh.unique gg
        · rw [hs] at gs; cases gs
      · rcases gg with ⟨gs, gg⟩ | ⟨gs, rfl⟩
        · rw [hs] at gs; cases gs
        · rfl
    · exact (saf_prv h1 h3).elim
    · exact absurd h1 (h3 _ _ _)
  · rcases h' with ⟨lt', t', x', h3, gg⟩ | ⟨lt', x', h3, gg⟩ | ⟨h3, h4, rfl⟩
    · exact (saf_prv h3 h1).elim
    · obtain ⟨rfl, rfl⟩ := h1.inj h3
      rcases hh with ⟨hs, hh⟩ | ⟨hs, rfl⟩
      · rcases gg with ⟨gs, gg⟩ | ⟨gs, rfl⟩
        · exact hh.unique gg
        · rw [hs] at gs; cases gs
      · rcases gg with ⟨gs, gg⟩ | ⟨gs, rfl⟩
        · rw [hs] at gs; cases gs
        · rfl
    · exact absurd h1 (h4 _ _)
  · rcases h' with ⟨lt', t', x', h3, gg⟩ | ⟨lt', x', h3, gg⟩ | ⟨h3, h4, rfl⟩
    · exact absurd h3 (h1 _ _ _)
    · exact absurd h3 (h2 _ _)
    · rfl
theorem OpB.form {kind : Int} {lt : Bool} {x : List UInt8} {k : Int} {tt : Option (List UInt8)} {d : AV} (h : OpB kind lt x k tt d) : ∃ lt' y ti ad tm e, d = .tup [conA lt' y ti ad tm, .raw (.int .i64 e)] := by
  rcases h with ⟨body, y, ti, ad, tm, h1, h2, h3, rfl⟩ | ⟨h1, rfl⟩
  · exact ⟨_, _, _, _, _, _, rfl⟩
  · exact ⟨false, [], 0, 0, 0, _, rfl⟩
theorem opS.form {safe : Bool} {b : List UInt8} {k : Int} {d : AV} (h : opS safe b k d) : ∃ lt' y ti ad tm e, d = .tup [conA lt' y ti ad tm, .raw (.int .i64 e)] := by
  rcases h with ⟨lt, t, x, h1, ⟨hs, hh⟩ | ⟨hs, rfl⟩⟩ | ⟨lt, x, h1, ⟨hs, hh⟩ | ⟨hs, rfl⟩⟩ | ⟨h1, h2, rfl⟩
  · exact hh.form
  · exact ⟨false, [], 0, 0, 0, _, rfl⟩
  · exact hh.form
  · exact ⟨false, [], 0, 0, 0, _, rfl⟩
  · exact ⟨false, [], 0, 0, 0, _, rfl⟩
theorem isSafe_pure (b : List UInt8) (hn : b.length ≤ 140737488355000) : PC Tryz.prog 113 [.lst 1 (b.map byteA)] (.raw (.bool (decide ((hdIs b [7]).2 = 0)))) := by
  refine PC.of_ac ?_
  have hP := hdIs_pure b [7] hn (by simp)
  simp only [List.map_cons, List.map_nil, iA] at hP
  refine AC.of_body (M := []) Tryz.func113 rfl (by kernel_rfl) (Nat.le_of_ble_eq_true rfl) ?_; simp only [Tryz.results113, Tryz.ntmps113]
  simp (dsimp := false) only [go_sem, ↓reduceIte, Nat.reduceEqDiff, Nat.reduceLT, Nat.reduceAdd, Nat.reduceSub, Nat.reduceMul, Nat.reduceLeDiff, reduceCtorEq, Int.reduceNeg, Int.reduceToNat, Int.reduceLT, Int.reduceLE, Int.reduceGE, Int.reduceGT, Int.reduceEq]
  refine ACs.pure hP ?_
  simp (dsimp := false) only [go_sem, ↓reduceIte, Nat.reduceEqDiff, Nat.reduceLT, Nat.reduceAdd, Nat.reduceSub, Nat.reduceMul, Nat.reduceLeDiff, reduceCtorEq, Int.reduceNeg, Int.reduceToNat, Int.reduceLT, Int.reduceLE, Int.reduceGE, Int.reduceGT, Int.reduceEq]
set_option maxHeartbeats 8000000 in
theorem Parts_pn (b : List UInt8) (hn : b.length ≤ 140737488355000) : PN Tryz.prog 53 [.lst 1 (b.map byteA)] (PtS b) := by
  refine PN.post ?_
  obtain ⟨⟨lt, e⟩, hI⟩ : ∃ x, hdIs b [6, 7] = x := ⟨_, rfl⟩
  have hP := hdIs_pure b [6, 7] hn (by simp)
  rw [hI] at hP
  simp only [List.map_cons, List.map_nil, iA] at hP
  by_cases he : e = 0
  rotate_left
  · have hfin : PtS b (.tup [.lst 1 [], .lst 1 [], .raw (.bool false), .raw (.int .i64 e)]) := by
      refine .inr (.inr ⟨fun lt' t x h => ?_, fun lt' x h => ?_, by rw [ptErr, hI, if_neg he]⟩)
      · have := hI.symm.trans h.hd2
        simp only [Prod.mk.injEq] at this
        exact he this.2
      · have := hI.symm.trans h.hd2
        simp only [Prod.mk.injEq] at this
        exact he this.2
    refine AC.of_body (M := []) Tryz.func53 rfl (by kernel_rfl) (Nat.le_of_ble_eq_true rfl) ?_; simp only [Tryz.results53, Tryz.ntmps53]
    simp (dsimp := false) only [go_sem, ↓reduceIte, Nat.reduceEqDiff, Nat.reduceLT, Nat.reduceAdd, Nat.reduceSub, Nat.reduceMul, Nat.reduceLeDiff, reduceCtorEq, Int.reduceNeg, Int.reduceToNat, Int.reduceLT, Int.reduceLE, Int.reduceGE, Int.reduceGT, Int.reduceEq]
    refine ACs.pure hP ?_
    simp (dsimp := false) only [go_sem, ↓reduceIte, Nat.reduceEqDiff, Nat.reduceLT, Nat.reduceAdd, Nat.reduceSub, Nat.reduceMul, Nat.reduceLeDiff, reduceCtorEq, Int.reduceNeg, Int.reduceToNat, Int.reduceLT, Int.reduceLE, Int.reduceGE, Int.reduceGT, Int.reduceEq, he]
    exact ⟨_, _, nilT, hfin⟩
  subst he
  have herr : ptErr b = 100 := by rw [ptErr, hI]; rfl
  have o0 : 0 ≤ ((2 : Int), false).1 ∧ ((2 : Int), false).1 ≤ b.length := ⟨by decide, hdIs_len hI⟩
  have hS := isSafe_pure b hn
  by_cases h7 : (hdIs b [7]).2 = 0
  · have hnp : ∀ lt' x, ¬ prvIs b lt' x := fun lt' x h => by rw [h.hd7] at h7; cases h7
    have hbad : (∀ lt' t x, ¬ safIs b lt' t x) → PtS b (.tup [.lst 1 [], .lst 1 [], .raw (.bool false), .raw (.int .i64 100)]) := fun h => .inr (.inr ⟨h, hnp, by rw [herr]⟩)
    rw [decide_eq_true h7] at hS
    obtain ⟨x1, e1⟩ : ∃ x, cNum b 2 lt (2, false) = x := ⟨_, rfl⟩
    have o1 : 0 ≤ x1.2.1 ∧ x1.2.1 ≤ b.length := by rw [← e1]; exact cNum_ok o0.1 o0.2
    obtain ⟨x2, e2⟩ : ∃ x, cByt b x1.1 x1.2 = x := ⟨_, rfl⟩
    have hp2 : 0 ≤ x1.1 := by rw [← e1]; exact cNum_nn _ _ _ _
    have hq2 : x1.1 ≤ 65535 := by rw [← e1]; exact cNum_le _ _ _ _ (by decide)
    have o2 : 0 ≤ x2.2.1 ∧ x2.2.1 ≤ b.length := by rw [← e2]; exact cByt_ok o1.1 o1.2 hp2
    have zl2 : x2.1.length ≤ 65535 := by rw [← e2]; exact cByt_le _ _ _ () (by omega)
    obtain ⟨x3, e3⟩ : ∃ x, cNum b 2 lt x2.2 = x := ⟨_, rfl⟩
    have o3 : 0 ≤ x3.2.1 ∧ x3.2.1 ≤ b.length := by rw [← e3]; exact cNum_ok o2.1 o2.2
    obtain ⟨x4, e4⟩ : ∃ x, cByt b x3.1 x3.2 = x := ⟨_, rfl⟩
    have hp4 : 0 ≤ x3.1 := by rw [← e3]; exact cNum_nn _ _ _ _
    have hq4 : x3.1 ≤ 65535 := by rw [← e3]; exact cNum_le _ _ _ _ (by decide)
    have o4 : 0 ≤ x4.2.1 ∧ x4.2.1 ≤ b.length := by rw [← e4]; exact cByt_ok o3.1 o3.2 hp4
    have zl4 : x4.1.length ≤ 65535 := by rw [← e4]; exact cByt_le _ _ _ () (by omega)
    have hR : safR b lt (2, false) = (x1.1, x2.1, x3.1, x4.1, x4.2.2) := by simp only [safR, e1, e2, e3, e4]
    have key : ∀ lt' t' x', safIs b lt' t' x' → lt' = lt ∧ t' = x2.1 ∧ x' = x4.1 ∧ x4.2.2 = false := fun lt' t' x' h => by
      have hl : lt' = lt := by have := hI.symm.trans h.hd2; simp only [Prod.mk.injEq] at this; exact this.1.symm
      subst hl
      have := h.read.symm.trans hR
      simp only [Prod.mk.injEq] at this
      obtain ⟨a0, a1, a2, a3, j⟩ := this
      exact ⟨rfl, a1, a3, j.symm⟩
    have hm := message2_pure 7 lt x2.1 x4.1 (by decide) (by omega) (by omega)
    rw [show hdB 7 lt ++ (numB (x2.1.length : Int) 2 lt ++ x2.1 ++ numB (x4.1.length : Int) 2 lt ++ x4.1) = safB lt x2.1 x4.1 from rfl] at hm
    refine AC.of_body (M := []) Tryz.func53 rfl (by kernel_rfl) (Nat.le_of_ble_eq_true rfl) ?_; simp only [Tryz.results53, Tryz.ntmps53]
    simp (dsimp := false) only [go_sem, ↓reduceIte, Nat.reduceEqDiff, Nat.reduceLT, Nat.reduceAdd, Nat.reduceSub, Nat.reduceMul, Nat.reduceLeDiff, reduceCtorEq, Int.reduceNeg, Int.reduceToNat, Int.reduceLT, Int.reduceLE, Int.reduceGE, Int.reduceGT, Int.reduceEq]
    refine ACs.pure hP ?_
    simp (dsimp := false) only [go_sem, ↓reduceIte, Nat.reduceEqDiff, Nat.reduceLT, Nat.reduceAdd, Nat.reduceSub, Nat.reduceMul, Nat.reduceLeDiff, reduceCtorEq, Int.reduceNeg, Int.reduceToNat, Int.reduceLT, Int.reduceLE, Int.reduceGE, Int.reduceGT, Int.reduceEq]
    refine ACs.of (CNew_own b 2 lt _ _ fun k hk => ?_)
    simp (dsimp := false) only [go_sem, ↓reduceIte, Nat.reduceEqDiff, Nat.reduceLT, Nat.reduceAdd, Nat.reduceSub, Nat.reduceMul, Nat.reduceLeDiff, reduceCtorEq, Int.reduceNeg, Int.reduceToNat, Int.reduceLT, Int.reduceLE, Int.reduceGE, Int.reduceGT, Int.reduceEq]
    refine ACs.pure hS ?_
    simp (dsimp := false) only [go_sem, ↓reduceIte, Nat.reduceEqDiff, Nat.reduceLT, Nat.reduceAdd, Nat.reduceSub, Nat.reduceMul, Nat.reduceLeDiff, reduceCtorEq, Int.reduceNeg, Int.reduceToNat, Int.reduceLT, Int.reduceLE, Int.reduceGE, Int.reduceGT, Int.reduceEq, Own.set_same]
    refine ACs.of (CShort_own b lt (2, false) k _ _ (by simp only [Own.set_same, Own.set_same]) o0.1 o0.2 hn ?_)
    simp (dsimp := false) only [go_sem, ↓reduceIte, Nat.reduceEqDiff, Nat.reduceLT, Nat.reduceAdd, Nat.reduceSub, Nat.reduceMul, Nat.reduceLeDiff, reduceCtorEq, Int.reduceNeg, Int.reduceToNat, Int.reduceLT, Int.reduceLE, Int.reduceGE, Int.reduceGT, Int.reduceEq, e1, Own.set_same]
    refine ACs.of (CBytes_own b x1.1 lt x1.2 k _ _ (by simp only [Own.set_same, Own.set_same]) o1.1 o1.2 hp2 (by omega) hn ?_)
    simp (dsimp := false) only [go_sem, ↓reduceIte, Nat.reduceEqDiff, Nat.reduceLT, Nat.reduceAdd, Nat.reduceSub, Nat.reduceMul, Nat.reduceLeDiff, reduceCtorEq, Int.reduceNeg, Int.reduceToNat, Int.reduceLT, Int.reduceLE, Int.reduceGE, Int.reduceGT, Int.reduceEq, e2, Own.set_same]
    refine ACs.of (CShort_own b lt x2.2 k _ _ (by simp only [Own.set_same, Own.set_same]) o2.1 o2.2 hn ?_)
    simp (dsimp := false) only [go_sem, ↓reduceIte, Nat.reduceEqDiff, Nat.reduceLT, Nat.reduceAdd, Nat.reduceSub, Nat.reduceMul, Nat.reduceLeDiff, reduceCtorEq, Int.reduceNeg, Int.reduceToNat, Int.reduceLT, Int.reduceLE, Int.reduceGE, Int.reduceGT, Int.reduceEq, e3, Own.set_same]
    refine ACs.of (CBytes_own b x3.1 lt x3.2 k _ _ (by simp only [Own.set_same, Own.set_same]) o3.1 o3.2 hp4 (by omega) hn ?_)
    simp (dsimp := false) only [go_sem, ↓reduceIte, Nat.reduceEqDiff, Nat.reduceLT, Nat.reduceAdd, Nat.reduceSub, Nat.reduceMul, Nat.reduceLeDiff, reduceCtorEq, Int.reduceNeg, Int.reduceToNat, Int.reduceLT, Int.reduceLE, Int.reduceGE, Int.reduceGT, Int.reduceEq, e4, Own.set_same]
    refine ACs.pure hm ?_
    simp (dsimp := false) only [go_sem, ↓reduceIte, Nat.reduceEqDiff, Nat.reduceLT, Nat.reduceAdd, Nat.reduceSub, Nat.reduceMul, Nat.reduceLeDiff, reduceCtorEq, Int.reduceNeg, Int.reduceToNat, Int.reduceLT, Int.reduceLE, Int.reduceGE, Int.reduceGT, Int.reduceEq]
    refine ACs.of (CBad_own b lt x4.2 k _ _ (Own.set_same _ _ _) ?_)
    rcases Bool.eq_false_or_eq_true x4.2.2 with hb | hb
    · simp (dsimp := false) only [go_sem, ↓reduceIte, Nat.reduceEqDiff, Nat.reduceLT, Nat.reduceAdd, Nat.reduceSub, Nat.reduceMul, Nat.reduceLeDiff, reduceCtorEq, Int.reduceNeg, Int.reduceToNat, Int.reduceLT, Int.reduceLE, Int.reduceGE, Int.reduceGT, Int.reduceEq, hb]
      exact ⟨_, _, nilT, hbad (fun lt' t x h => by rw [(key _ _ _ h).2.2.2] at hb; cases hb)⟩
    by_cases g1 : (x2.1.length : Int) > 1000
    · simp (dsimp := false) only [go_sem, ↓reduceIte, Nat.reduceEqDiff, Nat.reduceLT, Nat.reduceAdd, Nat.reduceSub, Nat.reduceMul, Nat.reduceLeDiff, reduceCtorEq, Int.reduceNeg, Int.reduceToNat, Int.reduceLT, Int.reduceLE, Int.reduceGE, Int.reduceGT, Int.reduceEq, hb, g1]
      exact ⟨_, _, nilT, hbad (fun lt' t x h => by obtain ⟨rfl, rfl, rfl, _⟩ := key _ _ _ h; have := safChk_ok (safOk_chk h.1); omega)⟩
    by_cases g2 : (x4.1.length : Int) > 1012
    · simp (dsimp := false) only [go_sem, ↓reduceIte, Nat.reduceEqDiff, Nat.reduceLT, Nat.reduceAdd, Nat.reduceSub, Nat.reduceMul, Nat.reduceLeDiff, reduceCtorEq, Int.reduceNeg, Int.reduceToNat, Int.reduceLT, Int.reduceLE, Int.reduceGE, Int.reduceGT, Int.reduceEq, hb, g1, g2]
      exact ⟨_, _, nilT, hbad (fun lt' t x h => by obtain ⟨rfl, rfl, rfl, _⟩ := key _ _ _ h; have := safChk_ok (safOk_chk h.1); omega)⟩
    simp (dsimp := false) only [go_sem, ↓reduceIte, Nat.reduceEqDiff, Nat.reduceLT, Nat.reduceAdd, Nat.reduceSub, Nat.reduceMul, Nat.reduceLeDiff, reduceCtorEq, Int.reduceNeg, Int.reduceToNat, Int.reduceLT, Int.reduceLE, Int.reduceGE, Int.reduceGT, Int.reduceEq, hb, g1, g2]
    refine ACs.pure (Equal_pure _ b) ?_
    by_cases hq : safB lt x2.1 x4.1 = b
    · simp (dsimp := false) only [go_sem, ↓reduceIte, Nat.reduceEqDiff, Nat.reduceLT, Nat.reduceAdd, Nat.reduceSub, Nat.reduceMul, Nat.reduceLeDiff, reduceCtorEq, Int.reduceNeg, Int.reduceToNat, Int.reduceLT, Int.reduceLE, Int.reduceGE, Int.reduceGT, Int.reduceEq, hq]
      exact ⟨_, _, Weak1.refl _ _, .inl ⟨_, _, _, ⟨by rw [safOk, safChk, if_neg (by omega)], hq⟩, rfl⟩⟩
    · simp (dsimp := false) only [go_sem, ↓reduceIte, Nat.reduceEqDiff, Nat.reduceLT, Nat.reduceAdd, Nat.reduceSub, Nat.reduceMul, Nat.reduceLeDiff, reduceCtorEq, Int.reduceNeg, Int.reduceToNat, Int.reduceLT, Int.reduceLE, Int.reduceGE, Int.reduceGT, Int.reduceEq, hq]
      exact ⟨_, _, nilT, hbad (fun lt' t x h => by obtain ⟨rfl, rfl, rfl, _⟩ := key _ _ _ h; exact hq h.2)⟩
  · have hns : ∀ lt' t x, ¬ safIs b lt' t x := fun lt' t x h => by rw [h.hd] at h7; exact h7 rfl
    have hbad : (∀ lt' x, ¬ prvIs b lt' x) → PtS b (.tup [.lst 1 [], .lst 1 [], .raw (.bool false), .raw (.int .i64 100)]) := fun h => .inr (.inr ⟨hns, h, by rw [herr]⟩)
    rw [decide_eq_false h7] at hS
    obtain ⟨x1, e1⟩ : ∃ x, cNum b 2 lt (2, false) = x := ⟨_, rfl⟩
    have o1 : 0 ≤ x1.2.1 ∧ x1.2.1 ≤ b.length := by rw [← e1]; exact cNum_ok o0.1 o0.2
    obtain ⟨x2, e2⟩ : ∃ x, cByt b x1.1 x1.2 = x := ⟨_, rfl⟩
    have hp2 : 0 ≤ x1.1 := by rw [← e1]; exact cNum_nn _ _ _ _
    have hq2 : x1.1 ≤ 65535 := by rw [← e1]; exact cNum_le _ _ _ _ (by decide)
    have o2 : 0 ≤ x2.2.1 ∧ x2.2.1 ≤ b.length := by rw [← e2]; exact cByt_ok o1.1 o1.2 hp2
    have zl2 : x2.1.length ≤ 65535 := by rw [← e2]; exact cByt_le _ _ _ () (by omega)
    have hR : prvR b lt (2, false) = (x1.1, x2.1, x2.2.2) := by simp only [prvR, e1, e2]
    have key : ∀ lt' x', prvIs b lt' x' → lt' = lt ∧ x' = x2.1 ∧ x2.2.2 = false := fun lt' x' h => by
      have hl : lt' = lt := by have := hI.symm.trans h.hd2; simp only [Prod.mk.injEq] at this; exact this.1.symm
      subst hl
      have := h.read.symm.trans hR
      simp only [Prod.mk.injEq] at this
      obtain ⟨a0, a1, j⟩ := this
      exact ⟨rfl, a1, j.symm⟩
    have hm := message1_pure 6 lt x2.1 (by decide) (by omega)
    rw [show hdB 6 lt ++ (numB (x2.1.length : Int) 2 lt ++ x2.1) = prvB lt x2.1 from rfl] at hm
    refine AC.of_body (M := []) Tryz.func53 rfl (by kernel_rfl) (Nat.le_of_ble_eq_true rfl) ?_; simp only [Tryz.results53, Tryz.ntmps53]
    simp (dsimp := false) only [go_sem, ↓reduceIte, Nat.reduceEqDiff, Nat.reduceLT, Nat.reduceAdd, Nat.reduceSub, Nat.reduceMul, Nat.reduceLeDiff, reduceCtorEq, Int.reduceNeg, Int.reduceToNat, Int.reduceLT, Int.reduceLE, Int.reduceGE, Int.reduceGT, Int.reduceEq]
    refine ACs.pure hP ?_
    simp (dsimp := false) only [go_sem, ↓reduceIte, Nat.reduceEqDiff, Nat.reduceLT, Nat.reduceAdd, Nat.reduceSub, Nat.reduceMul, Nat.reduceLeDiff, reduceCtorEq, Int.reduceNeg, Int.reduceToNat, Int.reduceLT, Int.reduceLE, Int.reduceGE, Int.reduceGT, Int.reduceEq]
    refine ACs.of (CNew_own b 2 lt _ _ fun k hk => ?_)
    simp (dsimp := false) only [go_sem, ↓reduceIte, Nat.reduceEqDiff, Nat.reduceLT, Nat.reduceAdd, Nat.reduceSub, Nat.reduceMul, Nat.reduceLeDiff, reduceCtorEq, Int.reduceNeg, Int.reduceToNat, Int.reduceLT, Int.reduceLE, Int.reduceGE, Int.reduceGT, Int.reduceEq]
    refine ACs.pure hS ?_
    simp (dsimp := false) only [go_sem, ↓reduceIte, Nat.reduceEqDiff, Nat.reduceLT, Nat.reduceAdd, Nat.reduceSub, Nat.reduceMul, Nat.reduceLeDiff, reduceCtorEq, Int.reduceNeg, Int.reduceToNat, Int.reduceLT, Int.reduceLE, Int.reduceGE, Int.reduceGT, Int.reduceEq, Own.set_same]
    refine ACs.of (CShort_own b lt (2, false) k _ _ (by simp only [Own.set_same, Own.set_same]) o0.1 o0.2 hn ?_)
    simp (dsimp := false) only [go_sem, ↓reduceIte, Nat.reduceEqDiff, Nat.reduceLT, Nat.reduceAdd, Nat.reduceSub, Nat.reduceMul, Nat.reduceLeDiff, reduceCtorEq, Int.reduceNeg, Int.reduceToNat, Int.reduceLT, Int.reduceLE, Int.reduceGE, Int.reduceGT, Int.reduceEq, e1, Own.set_same]
    refine ACs.of (CBytes_own b x1.1 lt x1.2 k _ _ (by simp only [Own.set_same, Own.set_same]) o1.1 o1.2 hp2 (by omega) hn ?_)
    simp (dsimp := false) only [go_sem, ↓reduceIte, Nat.reduceEqDiff, Nat.reduceLT, Nat.reduceAdd, Nat.reduceSub, Nat.reduceMul, Nat.reduceLeDiff, reduceCtorEq, Int.reduceNeg, Int.reduceToNat, Int.reduceLT, Int.reduceLE, Int.reduceGE, Int.reduceGT, Int.reduceEq, e2, Own.set_same]
    refine ACs.pure hm ?_
    simp (dsimp := false) only [go_sem, ↓reduceIte, Nat.reduceEqDiff, Nat.reduceLT, Nat.reduceAdd, Nat.reduceSub, Nat.reduceMul, Nat.reduceLeDiff, reduceCtorEq, Int.reduceNeg, Int.reduceToNat, Int.reduceLT, Int.reduceLE, Int.reduceGE, Int.reduceGT, Int.reduceEq]
    refine ACs.of (CBad_own b lt x2.2 k _ _ (Own.set_same _ _ _) ?_)
    rcases Bool.eq_false_or_eq_true x2.2.2 with hb | hb
    · simp (dsimp := false) only [go_sem, ↓reduceIte, Nat.reduceEqDiff, Nat.reduceLT, Nat.reduceAdd, Nat.reduceSub, Nat.reduceMul, Nat.reduceLeDiff, reduceCtorEq, Int.reduceNeg, Int.reduceToNat, Int.reduceLT, Int.reduceLE, Int.reduceGE, Int.reduceGT, Int.reduceEq, hb]
      exact ⟨_, _, nilT, hbad (fun lt' x h => by rw [(key _ _ h).2.2] at hb; cases hb)⟩
    by_cases g2 : (x2.1.length : Int) > 1012
    · simp (dsimp := false) only [go_sem, ↓reduceIte, Nat.reduceEqDiff, Nat.reduceLT, Nat.reduceAdd, Nat.reduceSub, Nat.reduceMul, Nat.reduceLeDiff, reduceCtorEq, Int.reduceNeg, Int.reduceToNat, Int.reduceLT, Int.reduceLE, Int.reduceGE, Int.reduceGT, Int.reduceEq, hb, g2]
      exact ⟨_, _, nilT, hbad (fun lt' x h => by obtain ⟨rfl, rfl, _⟩ := key _ _ h; have := prvChk_ok (prvOk_chk h.1); omega)⟩
    simp (dsimp := false) only [go_sem, ↓reduceIte, Nat.reduceEqDiff, Nat.reduceLT, Nat.reduceAdd, Nat.reduceSub, Nat.reduceMul, Nat.reduceLeDiff, reduceCtorEq, Int.reduceNeg, Int.reduceToNat, Int.reduceLT, Int.reduceLE, Int.reduceGE, Int.reduceGT, Int.reduceEq, hb, g2]
    refine ACs.pure (Equal_pure _ b) ?_
    by_cases hq : prvB lt x2.1 = b
    · simp (dsimp := false) only [go_sem, ↓reduceIte, Nat.reduceEqDiff, Nat.reduceLT, Nat.reduceAdd, Nat.reduceSub, Nat.reduceMul, Nat.reduceLeDiff, reduceCtorEq, Int.reduceNeg, Int.reduceToNat, Int.reduceLT, Int.reduceLE, Int.reduceGE, Int.reduceGT, Int.reduceEq, hq]
      exact ⟨_, _, nilT1, .inr (.inl ⟨_, _, ⟨by rw [prvOk, prvChk, if_neg (by omega)], hq⟩, rfl⟩)⟩
    · simp (dsimp := false) only [go_sem, ↓reduceIte, Nat.reduceEqDiff, Nat.reduceLT, Nat.reduceAdd, Nat.reduceSub, Nat.reduceMul, Nat.reduceLeDiff, reduceCtorEq, Int.reduceNeg, Int.reduceToNat, Int.reduceLT, Int.reduceLE, Int.reduceGE, Int.reduceGT, Int.reduceEq, hq]
      exact ⟨_, _, nilT, hbad (fun lt' x h => by obtain ⟨rfl, rfl, _⟩ := key _ _ h; exact hq h.2)⟩
end Go.Proofs.YtghnigbihllnmaaGreat.Fn
