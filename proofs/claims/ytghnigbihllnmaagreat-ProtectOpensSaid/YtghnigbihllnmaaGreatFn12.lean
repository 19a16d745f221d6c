/- Authenticators: which are valid, and those that are made. -/
import Derived.Test.YtghnigbihllnmaaGreatHlC
import Derived.Test.YtghnigbihllnmaaGreatSp1
import Derived.Test.YtghnigbihllnmaaGreatTy
import Derived.Test.YtghnigbihllnmaaGreatFn2
import Derived.Test.YtghnigbihllnmaaGreatFn8
import Derived.Test.YtghnigbihllnmaaGreatFn9
import Derived.Test.YtghnigbihllnmaaGreatFn11
set_option linter.unusedVariables false
set_option linter.unusedSimpArgs false
namespace Go.Proofs.YtghnigbihllnmaaGreat.Fn
open Go Hl Sp Ty
set_option maxRecDepth 100000

/-- An authenticator as a value. -/
def authA (n i r : ByteArray) (c t m : Int) : AV := .st [.raw (.string n), .raw (.string i), .raw (.string r), .raw (.int .i64 c), .raw (.int .i64 t), .raw (.int .i64 m)]
/-- What Check of an authenticator answers. -/
def authChk (n i r : ByteArray) (c t m : Int) : Int := if validB n i r = false then 103 else if c < 0 ∨ c > 4294967295 ∨ t < 0 ∨ t > 199 ∨ m < 0 ∨ m > 4294967295 then 104 else 0

/-- An authenticator without errors. -/
def AuthOk (n i r : ByteArray) (c t m : Int) : Prop := validB n i r = true ∧ 0 ≤ c ∧ c ≤ 4294967295 ∧ 0 ≤ t ∧ t ≤ 199 ∧ 0 ≤ m ∧ m ≤ 4294967295
def AuthS (d : AV) : Prop := ∃ n i r c t m, d = authA n i r c t m ∧ AuthOk n i r c t m
theorem printB_size {s bad : List UInt8} (h : printB s bad = true) : s.length ≤ 39 := by
  unfold printB at h
  simp only [Bool.and_eq_true, decide_eq_true_eq] at h
  exact h.2
theorem validB_size {n i r : ByteArray} (h : validB n i r = true) : n.size ≤ 39 ∧ i.size ≤ 39 ∧ r.size ≤ 39 := by
  unfold validB nameB instB realmB at h
  simp only [Bool.and_eq_true] at h
  obtain ⟨⟨⟨_, h1⟩, h2⟩, _, h3⟩ := h
  rw [size_eq n, size_eq i, size_eq r]
  exact ⟨printB_size h1, printB_size h2, printB_size h3⟩
theorem AuthOk.chk {n i r : ByteArray} {c t m : Int} (h : AuthOk n i r c t m) : authChk n i r c t m = 0 := by
  obtain ⟨h1, h2⟩ := h
  rw [authChk, if_neg (by simp [h1]), if_neg (by omega)]
theorem longest_val : validB (nS 39) (nS 39) (nS 39) = true := by decide

set_option maxHeartbeats 4000000 in
theorem Auth_det (bs : List UInt8) (hb : bs.length ≤ 140737488355328) : ∃ d, PC Tryz.prog 108 [.lst 1 (bs.map byteA)] d ∧ AuthS d := by
  obtain ⟨⟨x1, at1⟩, g1⟩ : ∃ y, srcN bs 0 9 = y := ⟨_, rfl⟩
  obtain ⟨⟨p1, q1⟩, r1, s1⟩ := srcN_ok g1 (Int.le_refl _) (by omega) (by decide)
  simp only at p1 q1 r1 s1
  obtain ⟨⟨x2, at2⟩, g2⟩ : ∃ y, srcN bs at1 200 = y := ⟨_, rfl⟩
  obtain ⟨⟨p2, q2⟩, r2, s2⟩ := srcN_ok g2 r1 s1 (by decide)
  simp only at p2 q2 r2 s2
  obtain ⟨⟨x3, at3⟩, g3⟩ : ∃ y, srcN bs at2 256 = y := ⟨_, rfl⟩
  obtain ⟨⟨p3, q3⟩, r3, s3⟩ := srcN_ok g3 r2 s2 (by decide)
  simp only at p3 q3 r3 s3
  obtain ⟨⟨x4, at4⟩, g4⟩ : ∃ y, srcN bs at3 256 = y := ⟨_, rfl⟩
  obtain ⟨⟨p4, q4⟩, r4, s4⟩ := srcN_ok g4 r3 s3 (by decide)
  simp only at p4 q4 r4 s4
  obtain ⟨⟨x5, at5⟩, g5⟩ : ∃ y, srcN bs at4 256 = y := ⟨_, rfl⟩
  obtain ⟨⟨p5, q5⟩, r5, s5⟩ := srcN_ok g5 r4 s4 (by decide)
  simp only at p5 q5 r5 s5
  obtain ⟨⟨x6, at6⟩, g6⟩ : ∃ y, srcN bs at5 256 = y := ⟨_, rfl⟩
  obtain ⟨⟨p6, q6⟩, r6, s6⟩ := srcN_ok g6 r5 s5 (by decide)
  simp only at p6 q6 r6 s6
  obtain ⟨⟨x7, at7⟩, g7⟩ : ∃ y, srcN bs at6 9 = y := ⟨_, rfl⟩
  obtain ⟨⟨p7, q7⟩, r7, s7⟩ := srcN_ok g7 r6 s6 (by decide)
  simp only at p7 q7 r7 s7
  obtain ⟨⟨x8, at8⟩, g8⟩ : ∃ y, srcN bs at7 3 = y := ⟨_, rfl⟩
  obtain ⟨⟨p8, q8⟩, r8, s8⟩ := srcN_ok g8 r7 s7 (by decide)
  simp only at p8 q8 r8 s8
  obtain ⟨⟨x9, at9⟩, g9⟩ : ∃ y, srcN bs at8 2 = y := ⟨_, rfl⟩
  obtain ⟨⟨p9, q9⟩, r9, s9⟩ := srcN_ok g9 r8 s8 (by decide)
  simp only at p9 q9 r9 s9
  obtain ⟨⟨u1, u2, u3⟩, hu⟩ : ∃ u, userP x1 = u := ⟨_, rfl⟩
  have hv := userP_val x1
  rw [hu] at hv
  have e1 : IntKind.i64.wrap (x3 * 70000) = x3 * 70000 := wrap_i64 (by omega) (by omega)
  have e2 : IntKind.i64.wrap (x3 * 70000 + x4) = x3 * 70000 + x4 := wrap_i64 (by omega) (by omega)
  have e3 : IntKind.i64.wrap (x5 * 150) = x5 * 150 := wrap_i64 (by omega) (by omega)
  have e4 : IntKind.i64.wrap (x5 * 150 + x6) = x5 * 150 + x6 := wrap_i64 (by omega) (by omega)
  have e5 : IntKind.i64.wrap (4294967295 - x8) = 4294967295 - x8 := wrap_i64 (by omega) (by omega)
  have e6 : IntKind.i64.wrap (4294967295 - x9) = 4294967295 - x9 := wrap_i64 (by omega) (by omega)
  suffices hpc : PC Tryz.prog 108 [.lst 1 (bs.map byteA)] (if x7 = 8 then authA (nS 39) (nS 39) (nS 39) (4294967295 - x9) x2 (4294967295 - x8) else authA u1 u2 u3 (x3 * 70000 + x4) x2 (x5 * 150 + x6)) by
    refine ⟨_, hpc, ?_⟩
    split
    · exact ⟨_, _, _, _, _, _, rfl, longest_val, by omega, by omega, by omega, by omega, by omega, by omega⟩
    · exact ⟨_, _, _, _, _, _, rfl, hv, by omega, by omega, by omega, by omega, by omega, by omega⟩
  refine PC.of_ac ?_
  refine AC.of_body (M := [7]) Tryz.func108 rfl (by kernel_rfl) (Nat.le_of_ble_eq_true rfl) ?_; simp only [Tryz.results108, Tryz.ntmps108]
  simp (dsimp := false) only [go_sem, ↓reduceIte, Nat.reduceEqDiff, Nat.reduceLT, Nat.reduceAdd, Nat.reduceSub, Nat.reduceMul, Nat.reduceLeDiff, reduceCtorEq, Int.reduceNeg, Int.reduceToNat, Int.reduceLT, Int.reduceLE, Int.reduceGE, Int.reduceGT, Int.reduceEq]
  intro k hk0 k1 hk1
  have n1 := none_ne hk1
  have a1 : ∀ (own : Own) o, (own.set k1 o) k = own k := fun own o => Own.set_ne _ _ (Ne.symm n1)
  have a2 : ∀ (own : Own) o, (own.set k o) k1 = own k1 := fun own o => Own.set_ne _ _ n1
  refine ACs.of (Next_own bs 0 9 k1 _ _ (by first | exact Own.set_same _ _ _ | (simp only [a1, a2, Own.set_same]; done)) (by decide) (by omega) hb (by decide) (by decide) ?_)
  simp (dsimp := false) only [go_sem, ↓reduceIte, Nat.reduceEqDiff, Nat.reduceLT, Nat.reduceAdd, Nat.reduceSub, Nat.reduceMul, Nat.reduceLeDiff, reduceCtorEq, Int.reduceNeg, Int.reduceToNat, Int.reduceLT, Int.reduceLE, Int.reduceGE, Int.reduceGT, Int.reduceEq, g1]
  refine ACs.pure (User_pure x1 p1 (by omega)) ?_
  simp (dsimp := false) only [go_sem, ↓reduceIte, Nat.reduceEqDiff, Nat.reduceLT, Nat.reduceAdd, Nat.reduceSub, Nat.reduceMul, Nat.reduceLeDiff, reduceCtorEq, Int.reduceNeg, Int.reduceToNat, Int.reduceLT, Int.reduceLE, Int.reduceGE, Int.reduceGT, Int.reduceEq, hu, prinA]
  refine ACs.of (Next_own bs at1 200 k1 _ _ (by first | exact Own.set_same _ _ _ | (simp only [a1, a2, Own.set_same]; done)) r1 s1 hb (by decide) (by decide) ?_)
  simp (dsimp := false) only [go_sem, ↓reduceIte, Nat.reduceEqDiff, Nat.reduceLT, Nat.reduceAdd, Nat.reduceSub, Nat.reduceMul, Nat.reduceLeDiff, reduceCtorEq, Int.reduceNeg, Int.reduceToNat, Int.reduceLT, Int.reduceLE, Int.reduceGE, Int.reduceGT, Int.reduceEq, g2]
  refine ACs.of (Next_own bs at2 256 k1 _ _ (by first | exact Own.set_same _ _ _ | (simp only [a1, a2, Own.set_same]; done)) r2 s2 hb (by decide) (by decide) ?_)
  simp (dsimp := false) only [go_sem, ↓reduceIte, Nat.reduceEqDiff, Nat.reduceLT, Nat.reduceAdd, Nat.reduceSub, Nat.reduceMul, Nat.reduceLeDiff, reduceCtorEq, Int.reduceNeg, Int.reduceToNat, Int.reduceLT, Int.reduceLE, Int.reduceGE, Int.reduceGT, Int.reduceEq, g3, e1]
  refine ACs.of (Next_own bs at3 256 k1 _ _ (by first | exact Own.set_same _ _ _ | (simp only [a1, a2, Own.set_same]; done)) r3 s3 hb (by decide) (by decide) ?_)
  simp (dsimp := false) only [go_sem, ↓reduceIte, Nat.reduceEqDiff, Nat.reduceLT, Nat.reduceAdd, Nat.reduceSub, Nat.reduceMul, Nat.reduceLeDiff, reduceCtorEq, Int.reduceNeg, Int.reduceToNat, Int.reduceLT, Int.reduceLE, Int.reduceGE, Int.reduceGT, Int.reduceEq, g4, e2]
  intro k2 hk2
  have n2 := none_ne hk2
  rw [Own.set_ne _ _ n2] at hk2
  have n3 := none_ne hk2
  have b1 : ∀ (own : Own) o, (own.set k2 o) k1 = own k1 := fun own o => Own.set_ne _ _ (Ne.symm n2)
  have b2 : ∀ (own : Own) o, (own.set k1 o) k2 = own k2 := fun own o => Own.set_ne _ _ n2
  have b3 : ∀ (own : Own) o, (own.set k2 o) k = own k := fun own o => Own.set_ne _ _ (Ne.symm n3)
  have b4 : ∀ (own : Own) o, (own.set k o) k2 = own k2 := fun own o => Own.set_ne _ _ n3
  refine ACs.of (Next_own bs at4 256 k1 _ _ (by first | exact Own.set_same _ _ _ | (simp only [a1, a2, b1, b2, b3, b4, Own.set_same]; done)) r4 s4 hb (by decide) (by decide) ?_)
  simp (dsimp := false) only [go_sem, ↓reduceIte, Nat.reduceEqDiff, Nat.reduceLT, Nat.reduceAdd, Nat.reduceSub, Nat.reduceMul, Nat.reduceLeDiff, reduceCtorEq, Int.reduceNeg, Int.reduceToNat, Int.reduceLT, Int.reduceLE, Int.reduceGE, Int.reduceGT, Int.reduceEq, g5, e3, b1, b2, b3, b4, a1, a2]
  refine ACs.of (Next_own bs at5 256 k1 _ _ (by first | exact Own.set_same _ _ _ | (simp only [a1, a2, b1, b2, b3, b4, Own.set_same]; done)) r5 s5 hb (by decide) (by decide) ?_)
  simp (dsimp := false) only [go_sem, ↓reduceIte, Nat.reduceEqDiff, Nat.reduceLT, Nat.reduceAdd, Nat.reduceSub, Nat.reduceMul, Nat.reduceLeDiff, reduceCtorEq, Int.reduceNeg, Int.reduceToNat, Int.reduceLT, Int.reduceLE, Int.reduceGE, Int.reduceGT, Int.reduceEq, g6, e4, b1, b2, b3, b4, a1, a2]
  refine ACs.of (Next_own bs at6 9 k1 _ _ (by first | exact Own.set_same _ _ _ | (simp only [a1, a2, b1, b2, b3, b4, Own.set_same]; done)) r6 s6 hb (by decide) (by decide) ?_)
  by_cases h8 : x7 = 8
  · simp (dsimp := false) only [go_sem, ↓reduceIte, Nat.reduceEqDiff, Nat.reduceLT, Nat.reduceAdd, Nat.reduceSub, Nat.reduceMul, Nat.reduceLeDiff, reduceCtorEq, Int.reduceNeg, Int.reduceToNat, Int.reduceLT, Int.reduceLE, Int.reduceGE, Int.reduceGT, Int.reduceEq, g7, h8, b1, b2, b3, b4, a1, a2]
    refine ACs.pure (Longest_pure 0 (by decide)) ?_
    simp (dsimp := false) only [go_sem, ↓reduceIte, Nat.reduceEqDiff, Nat.reduceLT, Nat.reduceAdd, Nat.reduceSub, Nat.reduceMul, Nat.reduceLeDiff, reduceCtorEq, Int.reduceNeg, Int.reduceToNat, Int.reduceLT, Int.reduceLE, Int.reduceGE, Int.reduceGT, Int.reduceEq, prinA]
    refine ACs.of (Next_own bs at7 3 k1 _ _ (by first | exact Own.set_same _ _ _ | (simp only [a1, a2, b1, b2, b3, b4, Own.set_same]; done)) r7 s7 hb (by decide) (by decide) ?_)
    simp (dsimp := false) only [go_sem, ↓reduceIte, Nat.reduceEqDiff, Nat.reduceLT, Nat.reduceAdd, Nat.reduceSub, Nat.reduceMul, Nat.reduceLeDiff, reduceCtorEq, Int.reduceNeg, Int.reduceToNat, Int.reduceLT, Int.reduceLE, Int.reduceGE, Int.reduceGT, Int.reduceEq, g8, e5]
    refine ACs.of (Next_own bs at8 2 k1 _ _ (by first | exact Own.set_same _ _ _ | (simp only [a1, a2, b1, b2, b3, b4, Own.set_same]; done)) r8 s8 hb (by decide) (by decide) ?_)
    simp (dsimp := false) only [go_sem, ↓reduceIte, Nat.reduceEqDiff, Nat.reduceLT, Nat.reduceAdd, Nat.reduceSub, Nat.reduceMul, Nat.reduceLeDiff, reduceCtorEq, Int.reduceNeg, Int.reduceToNat, Int.reduceLT, Int.reduceLE, Int.reduceGE, Int.reduceGT, Int.reduceEq, g9, e6, b1, b2, b3, b4, a1, a2]
    (try rfl)
  · simp (dsimp := false) only [go_sem, ↓reduceIte, Nat.reduceEqDiff, Nat.reduceLT, Nat.reduceAdd, Nat.reduceSub, Nat.reduceMul, Nat.reduceLeDiff, reduceCtorEq, Int.reduceNeg, Int.reduceToNat, Int.reduceLT, Int.reduceLE, Int.reduceGE, Int.reduceGT, Int.reduceEq, g7, h8, b1, b2, b3, b4, a1, a2]
    (try rfl)
theorem Auth_pn (bs : List UInt8) (hb : bs.length ≤ 140737488355328) : PN Tryz.prog 108 [.lst 1 (bs.map byteA)] AuthS := by
  obtain ⟨d, h1, h2⟩ := Auth_det bs hb
  exact PN.of_pc h1 h2
end Go.Proofs.YtghnigbihllnmaaGreat.Fn
