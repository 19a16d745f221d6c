/- Tickets: which are valid, and those that are made. -/
import Derived.Test.YtghnigbihllnmaaGreatHlC
import Derived.Test.YtghnigbihllnmaaGreatSp1
import Derived.Test.YtghnigbihllnmaaGreatTy
import Derived.Test.YtghnigbihllnmaaGreatFn2
import Derived.Test.YtghnigbihllnmaaGreatFn8
import Derived.Test.YtghnigbihllnmaaGreatFn9
import Derived.Test.YtghnigbihllnmaaGreatFn11
import Derived.Test.YtghnigbihllnmaaGreatFn12
import Derived.Test.YtghnigbihllnmaaGreatFn19
set_option linter.unusedVariables false
set_option linter.unusedSimpArgs false
namespace Go.Proofs.YtghnigbihllnmaaGreat.Fn
open Go Hl Sp Ty
set_option maxRecDepth 100000

/-- A ticket as a value. -/
def ticketA (lt : Bool) (n i r : ByteArray) (ad k li is : Int) (s t : ByteArray) : AV := .st [.raw (.bool lt), .raw (.string n), .raw (.string i), .raw (.string r), .raw (.int .i64 ad), .raw (.int .u64 k), .raw (.int .i64 li), .raw (.int .i64 is), .raw (.string s), .raw (.string t)]
def tkNames (n i r s t : ByteArray) : Bool := validB n i r && nameB s && instB t
/-- What Check of a ticket answers. -/
def tkChk (n i r : ByteArray) (ad k li is : Int) (s t : ByteArray) : Int :=
  if tkNames n i r s t = false then 103 else if clsZ k ≠ 2 then 10 else if ad < 0 ∨ ad > 4294967295 ∨ li < 0 ∨ li > 255 ∨ is < 0 ∨ is > 4294967295 then 104 else 0

/-- A ticket without errors. -/
def TkOk (n i r : ByteArray) (ad k li is : Int) (s t : ByteArray) : Prop := validB n i r = true ∧ nameB s = true ∧ instB t = true ∧ clsZ k = 2 ∧ (0 ≤ k ∧ k < 18446744073709551616) ∧ (0 ≤ ad ∧ ad ≤ 4294967295) ∧ (0 ≤ li ∧ li ≤ 255) ∧ 0 ≤ is ∧ is ≤ 4294967295
def TkS (d : AV) : Prop := ∃ lt n i r ad k li is s t, d = ticketA lt n i r ad k li is s t ∧ TkOk n i r ad k li is s t
theorem TkOk.chk {n i r : ByteArray} {ad k li is : Int} {s t : ByteArray} (h : TkOk n i r ad k li is s t) : tkChk n i r ad k li is s t = 0 := by
  obtain ⟨h1, h2, h3, h4, h5, h6, h7, h8⟩ := h
  rw [tkChk, if_neg (by simp [tkNames, h1, h2, h3]), if_neg (by simp [h4]), if_neg (by omega)]
theorem servP_val (n : Int) : nameB (servP n).1 = true ∧ instB (servP n).2.1 = true := by
  unfold servP
  split
  · exact ⟨by simp only; decide, by simp only; decide⟩
  · split
    · exact ⟨by simp only; decide, by simp only; decide⟩
    · exact ⟨by simp only; decide, by simp only; decide⟩
theorem nS_name : nameB (nS 39) = true ∧ instB (nS 39) = true := ⟨by decide, by decide⟩
theorem longest_val' {x : Int} (h : x = 0 ∨ x = 1) : validB (nS (39 - x.toNat)) (nS (39 - x.toNat)) (nS (39 - x.toNat)) = true := by
  rcases h with rfl | rfl <;> decide
theorem nameB_size {s : ByteArray} (h : nameB s = true) : s.size ≤ 39 := by
  unfold nameB at h
  simp only [Bool.and_eq_true] at h
  rw [size_eq]; exact printB_size h.2
theorem instB_size {s : ByteArray} (h : instB s = true) : s.size ≤ 39 := by
  rw [size_eq]; exact printB_size h
set_option maxHeartbeats 8000000 in
theorem Ticket_det (bs : List UInt8) (hb : bs.length ≤ 140737488355328) : ∃ d, PC Tryz.prog 27 [.lst 1 (bs.map byteA)] d ∧ TkS d := by
  obtain ⟨⟨x1, at1⟩, g1⟩ : ∃ y, srcN bs 0 2 = y := ⟨_, rfl⟩
  obtain ⟨⟨p1, q1⟩, r1, s1⟩ := srcN_ok g1 (Int.le_refl _) (by omega) (by decide)
  simp only at p1 q1 r1 s1
  obtain ⟨⟨x2, at2⟩, g2⟩ : ∃ y, srcN bs at1 9 = y := ⟨_, rfl⟩
  obtain ⟨⟨p2, q2⟩, r2, s2⟩ := srcN_ok g2 r1 s1 (by decide)
  simp only at p2 q2 r2 s2
  obtain ⟨⟨x3, at3⟩, g3⟩ : ∃ y, srcN bs at2 9 = y := ⟨_, rfl⟩
  obtain ⟨⟨p3, q3⟩, r3, s3⟩ := srcN_ok g3 r2 s2 (by decide)
  simp only at p3 q3 r3 s3
  obtain ⟨⟨x4, at4⟩, g4⟩ : ∃ y, srcN bs at3 256 = y := ⟨_, rfl⟩
  obtain ⟨⟨p4, q4⟩, r4, s4⟩ := srcN_ok g4 r3 s3 (by decide)
  simp only at p4 q4 r4 s4
  obtain ⟨⟨x5, at5⟩, g5⟩ : ∃ y, srcN bs at4 200 = y := ⟨_, rfl⟩
  obtain ⟨⟨p5, q5⟩, r5, s5⟩ := srcN_ok g5 r4 s4 (by decide)
  simp only at p5 q5 r5 s5
  obtain ⟨⟨x6, at6⟩, g6⟩ : ∃ y, srcN bs at5 256 = y := ⟨_, rfl⟩
  obtain ⟨⟨p6, q6⟩, r6, s6⟩ := srcN_ok g6 r5 s5 (by decide)
  simp only at p6 q6 r6 s6
  obtain ⟨⟨x7, at7⟩, g7⟩ : ∃ y, srcN bs at6 256 = y := ⟨_, rfl⟩
  obtain ⟨⟨p7, q7⟩, r7, s7⟩ := srcN_ok g7 r6 s6 (by decide)
  simp only at p7 q7 r7 s7
  obtain ⟨⟨x8, at8⟩, g8⟩ : ∃ y, srcN bs at7 9 = y := ⟨_, rfl⟩
  obtain ⟨⟨p8, q8⟩, r8, s8⟩ := srcN_ok g8 r7 s7 (by decide)
  simp only at p8 q8 r8 s8
  obtain ⟨⟨x9, at9⟩, g9⟩ : ∃ y, srcN bs at8 7 = y := ⟨_, rfl⟩
  obtain ⟨⟨p9, q9⟩, r9, s9⟩ := srcN_ok g9 r8 s8 (by decide)
  simp only at p9 q9 r9 s9
  obtain ⟨⟨u1, u2, u3⟩, hu⟩ : ∃ u, userP x2 = u := ⟨_, rfl⟩
  obtain ⟨⟨v1, v2, v3⟩, hs⟩ : ∃ u, servP x8 = u := ⟨_, rfl⟩
  have hv := userP_val x2
  rw [hu] at hv
  have hw := servP_val x8
  rw [hs] at hw
  have hc := cls_session (n := x3) (by omega) (by omega)
  have e1 : IntKind.i64.wrap (x6 * 150) = x6 * 150 := wrap_i64 (by omega) (by omega)
  have e2 : IntKind.i64.wrap (x6 * 150 + x7) = x6 * 150 + x7 := wrap_i64 (by omega) (by omega)
  by_cases h9 : x9 = 6
  ·
    obtain ⟨⟨x10, at10⟩, g10⟩ : ∃ y, srcN bs at9 3 = y := ⟨_, rfl⟩
    obtain ⟨⟨p10, q10⟩, r10, s10⟩ := srcN_ok g10 r9 s9 (by decide)
    simp only at p10 q10 r10 s10
    obtain ⟨⟨x11, at11⟩, g11⟩ : ∃ y, srcN bs at10 3 = y := ⟨_, rfl⟩
    obtain ⟨⟨p11, q11⟩, r11, s11⟩ := srcN_ok g11 r10 s10 (by decide)
    simp only at p11 q11 r11 s11
    have e3 : IntKind.i64.wrap (4294967295 - x10) = 4294967295 - x10 := wrap_i64 (by omega) (by omega)
    have e4 : IntKind.i64.wrap (4294967295 - x11) = 4294967295 - x11 := wrap_i64 (by omega) (by omega)
    obtain ⟨⟨x12, at12⟩, g12⟩ : ∃ y, srcN bs at11 9 = y := ⟨_, rfl⟩
    obtain ⟨⟨p12, q12⟩, r12, s12⟩ := srcN_ok g12 r11 s11 (by decide)
    simp only at p12 q12 r12 s12
    by_cases h10 : x12 = 8
    ·
      obtain ⟨⟨x13, at13⟩, g13⟩ : ∃ y, srcN bs at12 2 = y := ⟨_, rfl⟩
      obtain ⟨⟨p13, q13⟩, r13, s13⟩ := srcN_ok g13 r12 s12 (by decide)
      simp only at p13 q13 r13 s13
      have hx : x13 = 0 ∨ x13 = 1 := by omega
      have hL := Longest_pure x13.toNat (by omega)
      rw [Int.toNat_of_nonneg p13] at hL
      have hl := longest_val' hx
      refine ⟨ticketA (decide (x1 = 1)) (nS (39 - x13.toNat)) (nS (39 - x13.toNat)) (nS (39 - x13.toNat)) (4294967295 - x10) (144115188075855873 + x3) x4 (4294967295 - x11) (nS 39) (nS 39), ?_, ⟨_, _, _, _, _, _, _, _, _, _, rfl, hl, nS_name.1, nS_name.2, hc, by omega, by omega, by omega, by omega, by omega⟩⟩
      refine PC.of_ac ?_
      refine AC.of_body (M := [8]) Tryz.func27 rfl (by kernel_rfl) (Nat.le_of_ble_eq_true rfl) ?_; simp only [Tryz.results27, Tryz.ntmps27]
      simp (dsimp := false) only [go_sem, ↓reduceIte, Nat.reduceEqDiff, Nat.reduceLT, Nat.reduceAdd, Nat.reduceSub, Nat.reduceMul, Nat.reduceLeDiff, reduceCtorEq, Int.reduceNeg, Int.reduceToNat, Int.reduceLT, Int.reduceLE, Int.reduceGE, Int.reduceGT, Int.reduceEq]
      intro k hk0 k1 hk1
      have n1 := none_ne hk1
      have a1 : ∀ (own : Own) o, (own.set k1 o) k = own k := fun own o => Own.set_ne _ _ (Ne.symm n1)
      have a2 : ∀ (own : Own) o, (own.set k o) k1 = own k1 := fun own o => Own.set_ne _ _ n1
      refine ACs.of (Next_own bs 0 2 k1 _ _ (by first | exact Own.set_same _ _ _ | (simp only [a1, a2, Own.set_same]; done)) (Int.le_refl _) (by omega) hb (by decide) (by decide) ?_)
      simp (dsimp := false) only [go_sem, ↓reduceIte, Nat.reduceEqDiff, Nat.reduceLT, Nat.reduceAdd, Nat.reduceSub, Nat.reduceMul, Nat.reduceLeDiff, reduceCtorEq, Int.reduceNeg, Int.reduceToNat, Int.reduceLT, Int.reduceLE, Int.reduceGE, Int.reduceGT, Int.reduceEq, g1]
      refine ACs.of (Next_own bs at1 9 k1 _ _ (by first | exact Own.set_same _ _ _ | (simp only [a1, a2, Own.set_same]; done)) r1 s1 hb (by decide) (by decide) ?_)
      simp (dsimp := false) only [go_sem, ↓reduceIte, Nat.reduceEqDiff, Nat.reduceLT, Nat.reduceAdd, Nat.reduceSub, Nat.reduceMul, Nat.reduceLeDiff, reduceCtorEq, Int.reduceNeg, Int.reduceToNat, Int.reduceLT, Int.reduceLE, Int.reduceGE, Int.reduceGT, Int.reduceEq, g2]
      refine ACs.pure (User_pure x2 p2 (by omega)) ?_
      simp (dsimp := false) only [go_sem, ↓reduceIte, Nat.reduceEqDiff, Nat.reduceLT, Nat.reduceAdd, Nat.reduceSub, Nat.reduceMul, Nat.reduceLeDiff, reduceCtorEq, Int.reduceNeg, Int.reduceToNat, Int.reduceLT, Int.reduceLE, Int.reduceGE, Int.reduceGT, Int.reduceEq, hu, prinA]
      refine ACs.of (Next_own bs at2 9 k1 _ _ (by first | exact Own.set_same _ _ _ | (simp only [a1, a2, Own.set_same]; done)) r2 s2 hb (by decide) (by decide) ?_)
      simp (dsimp := false) only [go_sem, ↓reduceIte, Nat.reduceEqDiff, Nat.reduceLT, Nat.reduceAdd, Nat.reduceSub, Nat.reduceMul, Nat.reduceLeDiff, reduceCtorEq, Int.reduceNeg, Int.reduceToNat, Int.reduceLT, Int.reduceLE, Int.reduceGE, Int.reduceGT, Int.reduceEq, g3]
      refine ACs.pure (Session_pure x3 p3 (by omega)) ?_
      simp (dsimp := false) only [go_sem, ↓reduceIte, Nat.reduceEqDiff, Nat.reduceLT, Nat.reduceAdd, Nat.reduceSub, Nat.reduceMul, Nat.reduceLeDiff, reduceCtorEq, Int.reduceNeg, Int.reduceToNat, Int.reduceLT, Int.reduceLE, Int.reduceGE, Int.reduceGT, Int.reduceEq]
      refine ACs.of (Next_own bs at3 256 k1 _ _ (by first | exact Own.set_same _ _ _ | (simp only [a1, a2, Own.set_same]; done)) r3 s3 hb (by decide) (by decide) ?_)
      simp (dsimp := false) only [go_sem, ↓reduceIte, Nat.reduceEqDiff, Nat.reduceLT, Nat.reduceAdd, Nat.reduceSub, Nat.reduceMul, Nat.reduceLeDiff, reduceCtorEq, Int.reduceNeg, Int.reduceToNat, Int.reduceLT, Int.reduceLE, Int.reduceGE, Int.reduceGT, Int.reduceEq, g4]
      intro k2 hk2
      have n2 := none_ne hk2
      rw [Own.set_ne _ _ n2] at hk2
      have n3 := none_ne hk2
      have b1 : ∀ (own : Own) o, (own.set k2 o) k1 = own k1 := fun own o => Own.set_ne _ _ (Ne.symm n2)
      have b2 : ∀ (own : Own) o, (own.set k1 o) k2 = own k2 := fun own o => Own.set_ne _ _ n2
      have b3 : ∀ (own : Own) o, (own.set k2 o) k = own k := fun own o => Own.set_ne _ _ (Ne.symm n3)
      have b4 : ∀ (own : Own) o, (own.set k o) k2 = own k2 := fun own o => Own.set_ne _ _ n3
      refine ACs.of (Next_own bs at4 200 k1 _ _ (by first | exact Own.set_same _ _ _ | (simp only [a1, a2, b1, b2, b3, b4, Own.set_same]; done)) r4 s4 hb (by decide) (by decide) ?_)
      simp (dsimp := false) only [go_sem, ↓reduceIte, Nat.reduceEqDiff, Nat.reduceLT, Nat.reduceAdd, Nat.reduceSub, Nat.reduceMul, Nat.reduceLeDiff, reduceCtorEq, Int.reduceNeg, Int.reduceToNat, Int.reduceLT, Int.reduceLE, Int.reduceGE, Int.reduceGT, Int.reduceEq, g5, a1, a2, b1, b2, b3, b4]
      refine ACs.of (Next_own bs at5 256 k1 _ _ (by first | exact Own.set_same _ _ _ | (simp only [a1, a2, b1, b2, b3, b4, Own.set_same]; done)) r5 s5 hb (by decide) (by decide) ?_)
      simp (dsimp := false) only [go_sem, ↓reduceIte, Nat.reduceEqDiff, Nat.reduceLT, Nat.reduceAdd, Nat.reduceSub, Nat.reduceMul, Nat.reduceLeDiff, reduceCtorEq, Int.reduceNeg, Int.reduceToNat, Int.reduceLT, Int.reduceLE, Int.reduceGE, Int.reduceGT, Int.reduceEq, g6, e1, a1, a2, b1, b2, b3, b4]
      refine ACs.of (Next_own bs at6 256 k1 _ _ (by first | exact Own.set_same _ _ _ | (simp only [a1, a2, b1, b2, b3, b4, Own.set_same]; done)) r6 s6 hb (by decide) (by decide) ?_)
      simp (dsimp := false) only [go_sem, ↓reduceIte, Nat.reduceEqDiff, Nat.reduceLT, Nat.reduceAdd, Nat.reduceSub, Nat.reduceMul, Nat.reduceLeDiff, reduceCtorEq, Int.reduceNeg, Int.reduceToNat, Int.reduceLT, Int.reduceLE, Int.reduceGE, Int.reduceGT, Int.reduceEq, g7, e2, a1, a2, b1, b2, b3, b4]
      refine ACs.of (Next_own bs at7 9 k1 _ _ (by first | exact Own.set_same _ _ _ | (simp only [a1, a2, b1, b2, b3, b4, Own.set_same]; done)) r7 s7 hb (by decide) (by decide) ?_)
      simp (dsimp := false) only [go_sem, ↓reduceIte, Nat.reduceEqDiff, Nat.reduceLT, Nat.reduceAdd, Nat.reduceSub, Nat.reduceMul, Nat.reduceLeDiff, reduceCtorEq, Int.reduceNeg, Int.reduceToNat, Int.reduceLT, Int.reduceLE, Int.reduceGE, Int.reduceGT, Int.reduceEq, g8, a1, a2, b1, b2, b3, b4]
      refine ACs.pure (Service_pure x8 p8 (by omega)) ?_
      simp (dsimp := false) only [go_sem, ↓reduceIte, Nat.reduceEqDiff, Nat.reduceLT, Nat.reduceAdd, Nat.reduceSub, Nat.reduceMul, Nat.reduceLeDiff, reduceCtorEq, Int.reduceNeg, Int.reduceToNat, Int.reduceLT, Int.reduceLE, Int.reduceGE, Int.reduceGT, Int.reduceEq, hs, prinA]
      intro k3 hk3
      have m1 : k3 ≠ k1 := fun h => by rw [h] at hk3; simp only [a1, a2, b1, b2, b3, b4, Own.set_same, reduceCtorEq] at hk3
      have m2 : k3 ≠ k2 := fun h => by rw [h] at hk3; simp only [a1, a2, b1, b2, b3, b4, Own.set_same, reduceCtorEq] at hk3
      have m3 : k3 ≠ k := fun h => by rw [h] at hk3; simp only [a1, a2, b1, b2, b3, b4, Own.set_same, reduceCtorEq] at hk3
      have d1 : ∀ (own : Own) o, (own.set k3 o) k1 = own k1 := fun own o => Own.set_ne _ _ (Ne.symm m1)
      have d2 : ∀ (own : Own) o, (own.set k3 o) k2 = own k2 := fun own o => Own.set_ne _ _ (Ne.symm m2)
      have d3 : ∀ (own : Own) o, (own.set k3 o) k = own k := fun own o => Own.set_ne _ _ (Ne.symm m3)
      have d4 : ∀ (own : Own) o, (own.set k1 o) k3 = own k3 := fun own o => Own.set_ne _ _ m1
      have d5 : ∀ (own : Own) o, (own.set k2 o) k3 = own k3 := fun own o => Own.set_ne _ _ m2
      have d6 : ∀ (own : Own) o, (own.set k o) k3 = own k3 := fun own o => Own.set_ne _ _ m3
      (try simp (dsimp := false) only [go_sem, ↓reduceIte, Nat.reduceEqDiff, Nat.reduceLT, Nat.reduceAdd, Nat.reduceSub, Nat.reduceMul, Nat.reduceLeDiff, reduceCtorEq, Int.reduceNeg, Int.reduceToNat, Int.reduceLT, Int.reduceLE, Int.reduceGE, Int.reduceGT, Int.reduceEq, a1, a2, b1, b2, b3, b4, d1, d2, d3, d4, d5, d6])
      have y1 : ∀ (own : Own), (own.del k3) k1 = own k1 := fun own => Own.del_ne _ (Ne.symm m1)
      have y2 : ∀ (own : Own), (own.del k3) k2 = own k2 := fun own => Own.del_ne _ (Ne.symm m2)
      have y3 : ∀ (own : Own), (own.del k3) k = own k := fun own => Own.del_ne _ (Ne.symm m3)
      refine AW.ghost (Ghost.slot (t := 5) (Weak1.box (k := k3) (o := ⟨29, [.raw (.string v1), .raw (.string v2), .raw (.string v3)], 0, 3⟩) (d := .st [.raw (.string v1), .raw (.string v2), .raw (.string v3)]) (by first | (simp only [a1, a2, b1, b2, b3, b4, d1, d2, d3, d4, d5, d6, Own.set_same]; done) | (simp only [a1, a2, b1, b2, b3, b4, d1, d2, d3, d4, d5, d6, Own.set_same]; rfl)) rfl rfl)) ?_
      refine AW.draw (M := []) [.v, .v, .v, .v, .v, .e, .v, .e] mixed (by kernel_rfl) ?_
      simp (dsimp := false) only [go_sem, ↓reduceIte, Nat.reduceEqDiff, Nat.reduceLT, Nat.reduceAdd, Nat.reduceSub, Nat.reduceMul, Nat.reduceLeDiff, reduceCtorEq, Int.reduceNeg, Int.reduceToNat, Int.reduceLT, Int.reduceLE, Int.reduceGE, Int.reduceGT, Int.reduceEq, a1, a2, b1, b2, b3, b4, d1, d2, d3, d4, d5, d6, y1, y2, y3]
      refine ACs.of (Next_own bs at8 7 k1 _ _ (by first | exact Own.set_same _ _ _ | (simp only [a1, a2, b1, b2, b3, b4, d1, d2, d3, d4, d5, d6, y1, y2, y3, Own.set_same]; done)) r8 s8 hb (by decide) (by decide) ?_)
      simp (dsimp := false) only [go_sem, ↓reduceIte, Nat.reduceEqDiff, Nat.reduceLT, Nat.reduceAdd, Nat.reduceSub, Nat.reduceMul, Nat.reduceLeDiff, reduceCtorEq, Int.reduceNeg, Int.reduceToNat, Int.reduceLT, Int.reduceLE, Int.reduceGE, Int.reduceGT, Int.reduceEq, g9, h9, a1, a2, b1, b2, b3, b4, d1, d2, d3, d4, d5, d6, y1, y2, y3]
      refine ACs.of (Next_own bs at9 3 k1 _ _ (by first | exact Own.set_same _ _ _ | (simp only [a1, a2, b1, b2, b3, b4, d1, d2, d3, d4, d5, d6, y1, y2, y3, Own.set_same]; done)) r9 s9 hb (by decide) (by decide) ?_)
      simp (dsimp := false) only [go_sem, ↓reduceIte, Nat.reduceEqDiff, Nat.reduceLT, Nat.reduceAdd, Nat.reduceSub, Nat.reduceMul, Nat.reduceLeDiff, reduceCtorEq, Int.reduceNeg, Int.reduceToNat, Int.reduceLT, Int.reduceLE, Int.reduceGE, Int.reduceGT, Int.reduceEq, g10, e3]
      refine ACs.of (Next_own bs at10 3 k1 _ _ (by first | exact Own.set_same _ _ _ | (simp only [a1, a2, b1, b2, b3, b4, d1, d2, d3, d4, d5, d6, y1, y2, y3, Own.set_same]; done)) r10 s10 hb (by decide) (by decide) ?_)
      simp (dsimp := false) only [go_sem, ↓reduceIte, Nat.reduceEqDiff, Nat.reduceLT, Nat.reduceAdd, Nat.reduceSub, Nat.reduceMul, Nat.reduceLeDiff, reduceCtorEq, Int.reduceNeg, Int.reduceToNat, Int.reduceLT, Int.reduceLE, Int.reduceGE, Int.reduceGT, Int.reduceEq, g11, e4, a1, a2, b1, b2, b3, b4, d1, d2, d3, d4, d5, d6, y1, y2, y3]
      refine ACs.of (Next_own bs at11 9 k1 _ _ (by first | exact Own.set_same _ _ _ | (simp only [a1, a2, b1, b2, b3, b4, d1, d2, d3, d4, d5, d6, y1, y2, y3, Own.set_same]; done)) r11 s11 hb (by decide) (by decide) ?_)
      simp (dsimp := false) only [go_sem, ↓reduceIte, Nat.reduceEqDiff, Nat.reduceLT, Nat.reduceAdd, Nat.reduceSub, Nat.reduceMul, Nat.reduceLeDiff, reduceCtorEq, Int.reduceNeg, Int.reduceToNat, Int.reduceLT, Int.reduceLE, Int.reduceGE, Int.reduceGT, Int.reduceEq, g12, h10, a1, a2, b1, b2, b3, b4, d1, d2, d3, d4, d5, d6, y1, y2, y3]
      refine ACs.of (Next_own bs at12 2 k1 _ _ (by first | exact Own.set_same _ _ _ | (simp only [a1, a2, b1, b2, b3, b4, d1, d2, d3, d4, d5, d6, y1, y2, y3, Own.set_same]; done)) r12 s12 hb (by decide) (by decide) ?_)
      simp (dsimp := false) only [go_sem, ↓reduceIte, Nat.reduceEqDiff, Nat.reduceLT, Nat.reduceAdd, Nat.reduceSub, Nat.reduceMul, Nat.reduceLeDiff, reduceCtorEq, Int.reduceNeg, Int.reduceToNat, Int.reduceLT, Int.reduceLE, Int.reduceGE, Int.reduceGT, Int.reduceEq, g13]
      refine ACs.pure hL ?_
      simp (dsimp := false) only [go_sem, ↓reduceIte, Nat.reduceEqDiff, Nat.reduceLT, Nat.reduceAdd, Nat.reduceSub, Nat.reduceMul, Nat.reduceLeDiff, reduceCtorEq, Int.reduceNeg, Int.reduceToNat, Int.reduceLT, Int.reduceLE, Int.reduceGE, Int.reduceGT, Int.reduceEq, prinA, a1, a2, b1, b2, b3, b4, d1, d2, d3, d4, d5, d6, y1, y2, y3]
      refine ACs.pure (Longest_pure 0 (by decide)) ?_
      simp (dsimp := false) only [go_sem, ↓reduceIte, Nat.reduceEqDiff, Nat.reduceLT, Nat.reduceAdd, Nat.reduceSub, Nat.reduceMul, Nat.reduceLeDiff, reduceCtorEq, Int.reduceNeg, Int.reduceToNat, Int.reduceLT, Int.reduceLE, Int.reduceGE, Int.reduceGT, Int.reduceEq, prinA]
      refine ACs.pure (Longest_pure 0 (by decide)) ?_
      simp (dsimp := false) only [go_sem, ↓reduceIte, Nat.reduceEqDiff, Nat.reduceLT, Nat.reduceAdd, Nat.reduceSub, Nat.reduceMul, Nat.reduceLeDiff, reduceCtorEq, Int.reduceNeg, Int.reduceToNat, Int.reduceLT, Int.reduceLE, Int.reduceGE, Int.reduceGT, Int.reduceEq, prinA, a1, a2, b1, b2, b3, b4, d1, d2, d3, d4, d5, d6, y1, y2, y3]
      (try rfl)
    ·
      refine ⟨ticketA (decide (x1 = 1)) u1 u2 u3 (4294967295 - x10) (144115188075855873 + x3) x4 (4294967295 - x11) v1 v2, ?_, ⟨_, _, _, _, _, _, _, _, _, _, rfl, hv, hw.1, hw.2, hc, by omega, by omega, by omega, by omega, by omega⟩⟩
      refine PC.of_ac ?_
      refine AC.of_body (M := [8]) Tryz.func27 rfl (by kernel_rfl) (Nat.le_of_ble_eq_true rfl) ?_; simp only [Tryz.results27, Tryz.ntmps27]
      simp (dsimp := false) only [go_sem, ↓reduceIte, Nat.reduceEqDiff, Nat.reduceLT, Nat.reduceAdd, Nat.reduceSub, Nat.reduceMul, Nat.reduceLeDiff, reduceCtorEq, Int.reduceNeg, Int.reduceToNat, Int.reduceLT, Int.reduceLE, Int.reduceGE, Int.reduceGT, Int.reduceEq]
      intro k hk0 k1 hk1
      have n1 := none_ne hk1
      have a1 : ∀ (own : Own) o, (own.set k1 o) k = own k := fun own o => Own.set_ne _ _ (Ne.symm n1)
      have a2 : ∀ (own : Own) o, (own.set k o) k1 = own k1 := fun own o => Own.set_ne _ _ n1
      refine ACs.of (Next_own bs 0 2 k1 _ _ (by first | exact Own.set_same _ _ _ | (simp only [a1, a2, Own.set_same]; done)) (Int.le_refl _) (by omega) hb (by decide) (by decide) ?_)
      simp (dsimp := false) only [go_sem, ↓reduceIte, Nat.reduceEqDiff, Nat.reduceLT, Nat.reduceAdd, Nat.reduceSub, Nat.reduceMul, Nat.reduceLeDiff, reduceCtorEq, Int.reduceNeg, Int.reduceToNat, Int.reduceLT, Int.reduceLE, Int.reduceGE, Int.reduceGT, Int.reduceEq, g1]
      refine ACs.of (Next_own bs at1 9 k1 _ _ (by first | exact Own.set_same _ _ _ | (simp only [a1, a2, Own.set_same]; done)) r1 s1 hb (by decide) (by decide) ?_)
      simp (dsimp := false) only [go_sem, ↓reduceIte, Nat.reduceEqDiff, Nat.reduceLT, Nat.reduceAdd, Nat.reduceSub, Nat.reduceMul, Nat.reduceLeDiff, reduceCtorEq, Int.reduceNeg, Int.reduceToNat, Int.reduceLT, Int.reduceLE, Int.reduceGE, Int.reduceGT, Int.reduceEq, g2]
      refine ACs.pure (User_pure x2 p2 (by omega)) ?_
      simp (dsimp := false) only [go_sem, ↓reduceIte, Nat.reduceEqDiff, Nat.reduceLT, Nat.reduceAdd, Nat.reduceSub, Nat.reduceMul, Nat.reduceLeDiff, reduceCtorEq, Int.reduceNeg, Int.reduceToNat, Int.reduceLT, Int.reduceLE, Int.reduceGE, Int.reduceGT, Int.reduceEq, hu, prinA]
      refine ACs.of (Next_own bs at2 9 k1 _ _ (by first | exact Own.set_same _ _ _ | (simp only [a1, a2, Own.set_same]; done)) r2 s2 hb (by decide) (by decide) ?_)
      simp (dsimp := false) only [go_sem, ↓reduceIte, Nat.reduceEqDiff, Nat.reduceLT, Nat.reduceAdd, Nat.reduceSub, Nat.reduceMul, Nat.reduceLeDiff, reduceCtorEq, Int.reduceNeg, Int.reduceToNat, Int.reduceLT, Int.reduceLE, Int.reduceGE, Int.reduceGT, Int.reduceEq, g3]
      refine ACs.pure (Session_pure x3 p3 (by omega)) ?_
      simp (dsimp := false) only [go_sem, ↓reduceIte, Nat.reduceEqDiff, Nat.reduceLT, Nat.reduceAdd, Nat.reduceSub, Nat.reduceMul, Nat.reduceLeDiff, reduceCtorEq, Int.reduceNeg, Int.reduceToNat, Int.reduceLT, Int.reduceLE, Int.reduceGE, Int.reduceGT, Int.reduceEq]
      refine ACs.of (Next_own bs at3 256 k1 _ _ (by first | exact Own.set_same _ _ _ | (simp only [a1, a2, Own.set_same]; done)) r3 s3 hb (by decide) (by decide) ?_)
      simp (dsimp := false) only [go_sem, ↓reduceIte, Nat.reduceEqDiff, Nat.reduceLT, Nat.reduceAdd, Nat.reduceSub, Nat.reduceMul, Nat.reduceLeDiff, reduceCtorEq, Int.reduceNeg, Int.reduceToNat, Int.reduceLT, Int.reduceLE, Int.reduceGE, Int.reduceGT, Int.reduceEq, g4]
      intro k2 hk2
      have n2 := none_ne hk2
      rw [Own.set_ne _ _ n2] at hk2
      have n3 := none_ne hk2
      have b1 : ∀ (own : Own) o, (own.set k2 o) k1 = own k1 := fun own o => Own.set_ne _ _ (Ne.symm n2)
      have b2 : ∀ (own : Own) o, (own.set k1 o) k2 = own k2 := fun own o => Own.set_ne _ _ n2
      have b3 : ∀ (own : Own) o, (own.set k2 o) k = own k := fun own o => Own.set_ne _ _ (Ne.symm n3)
      have b4 : ∀ (own : Own) o, (own.set k o) k2 = own k2 := fun own o => Own.set_ne _ _ n3
      refine ACs.of (Next_own bs at4 200 k1 _ _ (by first | exact Own.set_same _ _ _ | (simp only [a1, a2, b1, b2, b3, b4, Own.set_same]; done)) r4 s4 hb (by decide) (by decide) ?_)
      simp (dsimp := false) only [go_sem, ↓reduceIte, Nat.reduceEqDiff, Nat.reduceLT, Nat.reduceAdd, Nat.reduceSub, Nat.reduceMul, Nat.reduceLeDiff, reduceCtorEq, Int.reduceNeg, Int.reduceToNat, Int.reduceLT, Int.reduceLE, Int.reduceGE, Int.reduceGT, Int.reduceEq, g5, a1, a2, b1, b2, b3, b4]
      refine ACs.of (Next_own bs at5 256 k1 _ _ (by first | exact Own.set_same _ _ _ | (simp only [a1, a2, b1, b2, b3, b4, Own.set_same]; done)) r5 s5 hb (by decide) (by decide) ?_)
      simp (dsimp := false) only [go_sem, ↓reduceIte, Nat.reduceEqDiff, Nat.reduceLT, Nat.reduceAdd, Nat.reduceSub, Nat.reduceMul, Nat.reduceLeDiff, reduceCtorEq, Int.reduceNeg, Int.reduceToNat, Int.reduceLT, Int.reduceLE, Int.reduceGE, Int.reduceGT, Int.reduceEq, g6, e1, a1, a2, b1, b2, b3, b4]
      refine ACs.of (Next_own bs at6 256 k1 _ _ (by first | exact Own.set_same _ _ _ | (simp only [a1, a2, b1, b2, b3, b4, Own.set_same]; done)) r6 s6 hb (by decide) (by decide) ?_)
      simp (dsimp := false) only [go_sem, ↓reduceIte, Nat.reduceEqDiff, Nat.reduceLT, Nat.reduceAdd, Nat.reduceSub, Nat.reduceMul, Nat.reduceLeDiff, reduceCtorEq, Int.reduceNeg, Int.reduceToNat, Int.reduceLT, Int.reduceLE, Int.reduceGE, Int.reduceGT, Int.reduceEq, g7, e2, a1, a2, b1, b2, b3, b4]
      refine ACs.of (Next_own bs at7 9 k1 _ _ (by first | exact Own.set_same _ _ _ | (simp only [a1, a2, b1, b2, b3, b4, Own.set_same]; done)) r7 s7 hb (by decide) (by decide) ?_)
      simp (dsimp := false) only [go_sem, ↓reduceIte, Nat.reduceEqDiff, Nat.reduceLT, Nat.reduceAdd, Nat.reduceSub, Nat.reduceMul, Nat.reduceLeDiff, reduceCtorEq, Int.reduceNeg, Int.reduceToNat, Int.reduceLT, Int.reduceLE, Int.reduceGE, Int.reduceGT, Int.reduceEq, g8, a1, a2, b1, b2, b3, b4]
      refine ACs.pure (Service_pure x8 p8 (by omega)) ?_
      simp (dsimp := false) only [go_sem, ↓reduceIte, Nat.reduceEqDiff, Nat.reduceLT, Nat.reduceAdd, Nat.reduceSub, Nat.reduceMul, Nat.reduceLeDiff, reduceCtorEq, Int.reduceNeg, Int.reduceToNat, Int.reduceLT, Int.reduceLE, Int.reduceGE, Int.reduceGT, Int.reduceEq, hs, prinA]
      intro k3 hk3
      have m1 : k3 ≠ k1 := fun h => by rw [h] at hk3; simp only [a1, a2, b1, b2, b3, b4, Own.set_same, reduceCtorEq] at hk3
      have m2 : k3 ≠ k2 := fun h => by rw [h] at hk3; simp only [a1, a2, b1, b2, b3, b4, Own.set_same, reduceCtorEq] at hk3
      have m3 : k3 ≠ k := fun h => by rw [h] at hk3; simp only [a1, a2, b1, b2, b3, b4, Own.set_same, reduceCtorEq] at hk3
      have d1 : ∀ (own : Own) o, (own.set k3 o) k1 = own k1 := fun own o => Own.set_ne _ _ (Ne.symm m1)
      have d2 : ∀ (own : Own) o, (own.set k3 o) k2 = own k2 := fun own o => Own.set_ne _ _ (Ne.symm m2)
      have d3 : ∀ (own : Own) o, (own.set k3 o) k = own k := fun own o => Own.set_ne _ _ (Ne.symm m3)
      have d4 : ∀ (own : Own) o, (own.set k1 o) k3 = own k3 := fun own o => Own.set_ne _ _ m1
      have d5 : ∀ (own : Own) o, (own.set k2 o) k3 = own k3 := fun own o => Own.set_ne _ _ m2
      have d6 : ∀ (own : Own) o, (own.set k o) k3 = own k3 := fun own o => Own.set_ne _ _ m3
      (try simp (dsimp := false) only [go_sem, ↓reduceIte, Nat.reduceEqDiff, Nat.reduceLT, Nat.reduceAdd, Nat.reduceSub, Nat.reduceMul, Nat.reduceLeDiff, reduceCtorEq, Int.reduceNeg, Int.reduceToNat, Int.reduceLT, Int.reduceLE, Int.reduceGE, Int.reduceGT, Int.reduceEq, a1, a2, b1, b2, b3, b4, d1, d2, d3, d4, d5, d6])
      have y1 : ∀ (own : Own), (own.del k3) k1 = own k1 := fun own => Own.del_ne _ (Ne.symm m1)
      have y2 : ∀ (own : Own), (own.del k3) k2 = own k2 := fun own => Own.del_ne _ (Ne.symm m2)
      have y3 : ∀ (own : Own), (own.del k3) k = own k := fun own => Own.del_ne _ (Ne.symm m3)
      refine AW.ghost (Ghost.slot (t := 5) (Weak1.box (k := k3) (o := ⟨29, [.raw (.string v1), .raw (.string v2), .raw (.string v3)], 0, 3⟩) (d := .st [.raw (.string v1), .raw (.string v2), .raw (.string v3)]) (by first | (simp only [a1, a2, b1, b2, b3, b4, d1, d2, d3, d4, d5, d6, Own.set_same]; done) | (simp only [a1, a2, b1, b2, b3, b4, d1, d2, d3, d4, d5, d6, Own.set_same]; rfl)) rfl rfl)) ?_
      refine AW.draw (M := []) [.v, .v, .v, .v, .v, .e, .v, .e] mixed (by kernel_rfl) ?_
      simp (dsimp := false) only [go_sem, ↓reduceIte, Nat.reduceEqDiff, Nat.reduceLT, Nat.reduceAdd, Nat.reduceSub, Nat.reduceMul, Nat.reduceLeDiff, reduceCtorEq, Int.reduceNeg, Int.reduceToNat, Int.reduceLT, Int.reduceLE, Int.reduceGE, Int.reduceGT, Int.reduceEq, a1, a2, b1, b2, b3, b4, d1, d2, d3, d4, d5, d6, y1, y2, y3]
      refine ACs.of (Next_own bs at8 7 k1 _ _ (by first | exact Own.set_same _ _ _ | (simp only [a1, a2, b1, b2, b3, b4, d1, d2, d3, d4, d5, d6, y1, y2, y3, Own.set_same]; done)) r8 s8 hb (by decide) (by decide) ?_)
      simp (dsimp := false) only [go_sem, ↓reduceIte, Nat.reduceEqDiff, Nat.reduceLT, Nat.reduceAdd, Nat.reduceSub, Nat.reduceMul, Nat.reduceLeDiff, reduceCtorEq, Int.reduceNeg, Int.reduceToNat, Int.reduceLT, Int.reduceLE, Int.reduceGE, Int.reduceGT, Int.reduceEq, g9, h9, a1, a2, b1, b2, b3, b4, d1, d2, d3, d4, d5, d6, y1, y2, y3]
      refine ACs.of (Next_own bs at9 3 k1 _ _ (by first | exact Own.set_same _ _ _ | (simp only [a1, a2, b1, b2, b3, b4, d1, d2, d3, d4, d5, d6, y1, y2, y3, Own.set_same]; done)) r9 s9 hb (by decide) (by decide) ?_)
      simp (dsimp := false) only [go_sem, ↓reduceIte, Nat.reduceEqDiff, Nat.reduceLT, Nat.reduceAdd, Nat.reduceSub, Nat.reduceMul, Nat.reduceLeDiff, reduceCtorEq, Int.reduceNeg, Int.reduceToNat, Int.reduceLT, Int.reduceLE, Int.reduceGE, Int.reduceGT, Int.reduceEq, g10, e3]
      refine ACs.of (Next_own bs at10 3 k1 _ _ (by first | exact Own.set_same _ _ _ | (simp only [a1, a2, b1, b2, b3, b4, d1, d2, d3, d4, d5, d6, y1, y2, y3, Own.set_same]; done)) r10 s10 hb (by decide) (by decide) ?_)
      simp (dsimp := false) only [go_sem, ↓reduceIte, Nat.reduceEqDiff, Nat.reduceLT, Nat.reduceAdd, Nat.reduceSub, Nat.reduceMul, Nat.reduceLeDiff, reduceCtorEq, Int.reduceNeg, Int.reduceToNat, Int.reduceLT, Int.reduceLE, Int.reduceGE, Int.reduceGT, Int.reduceEq, g11, e4, a1, a2, b1, b2, b3, b4, d1, d2, d3, d4, d5, d6, y1, y2, y3]
      refine ACs.of (Next_own bs at11 9 k1 _ _ (by first | exact Own.set_same _ _ _ | (simp only [a1, a2, b1, b2, b3, b4, d1, d2, d3, d4, d5, d6, y1, y2, y3, Own.set_same]; done)) r11 s11 hb (by decide) (by decide) ?_)
      simp (dsimp := false) only [go_sem, ↓reduceIte, Nat.reduceEqDiff, Nat.reduceLT, Nat.reduceAdd, Nat.reduceSub, Nat.reduceMul, Nat.reduceLeDiff, reduceCtorEq, Int.reduceNeg, Int.reduceToNat, Int.reduceLT, Int.reduceLE, Int.reduceGE, Int.reduceGT, Int.reduceEq, g12, h10, a1, a2, b1, b2, b3, b4, d1, d2, d3, d4, d5, d6, y1, y2, y3]
      (try rfl)
  ·
    obtain ⟨⟨x12, at12⟩, g12⟩ : ∃ y, srcN bs at9 9 = y := ⟨_, rfl⟩
    obtain ⟨⟨p12, q12⟩, r12, s12⟩ := srcN_ok g12 r9 s9 (by decide)
    simp only at p12 q12 r12 s12
    by_cases h10 : x12 = 8
    ·
      obtain ⟨⟨x13, at13⟩, g13⟩ : ∃ y, srcN bs at12 2 = y := ⟨_, rfl⟩
      obtain ⟨⟨p13, q13⟩, r13, s13⟩ := srcN_ok g13 r12 s12 (by decide)
      simp only at p13 q13 r13 s13
      have hx : x13 = 0 ∨ x13 = 1 := by omega
      have hL := Longest_pure x13.toNat (by omega)
      rw [Int.toNat_of_nonneg p13] at hL
      have hl := longest_val' hx
      refine ⟨ticketA (decide (x1 = 1)) (nS (39 - x13.toNat)) (nS (39 - x13.toNat)) (nS (39 - x13.toNat)) x5 (144115188075855873 + x3) x4 (x6 * 150 + x7) (nS 39) (nS 39), ?_, ⟨_, _, _, _, _, _, _, _, _, _, rfl, hl, nS_name.1, nS_name.2, hc, by omega, by omega, by omega, by omega, by omega⟩⟩
      refine PC.of_ac ?_
      refine AC.of_body (M := [8]) Tryz.func27 rfl (by kernel_rfl) (Nat.le_of_ble_eq_true rfl) ?_; simp only [Tryz.results27, Tryz.ntmps27]
      simp (dsimp := false) only [go_sem, ↓reduceIte, Nat.reduceEqDiff, Nat.reduceLT, Nat.reduceAdd, Nat.reduceSub, Nat.reduceMul, Nat.reduceLeDiff, reduceCtorEq, Int.reduceNeg, Int.reduceToNat, Int.reduceLT, Int.reduceLE, Int.reduceGE, Int.reduceGT, Int.reduceEq]
      intro k hk0 k1 hk1
      have n1 := none_ne hk1
      have a1 : ∀ (own : Own) o, (own.set k1 o) k = own k := fun own o => Own.set_ne _ _ (Ne.symm n1)
      have a2 : ∀ (own : Own) o, (own.set k o) k1 = own k1 := fun own o => Own.set_ne _ _ n1
      refine ACs.of (Next_own bs 0 2 k1 _ _ (by first | exact Own.set_same _ _ _ | (simp only [a1, a2, Own.set_same]; done)) (Int.le_refl _) (by omega) hb (by decide) (by decide) ?_)
      simp (dsimp := false) only [go_sem, ↓reduceIte, Nat.reduceEqDiff, Nat.reduceLT, Nat.reduceAdd, Nat.reduceSub, Nat.reduceMul, Nat.reduceLeDiff, reduceCtorEq, Int.reduceNeg, Int.reduceToNat, Int.reduceLT, Int.reduceLE, Int.reduceGE, Int.reduceGT, Int.reduceEq, g1]
      refine ACs.of (Next_own bs at1 9 k1 _ _ (by first | exact Own.set_same _ _ _ | (simp only [a1, a2, Own.set_same]; done)) r1 s1 hb (by decide) (by decide) ?_)
      simp (dsimp := false) only [go_sem, ↓reduceIte, Nat.reduceEqDiff, Nat.reduceLT, Nat.reduceAdd, Nat.reduceSub, Nat.reduceMul, Nat.reduceLeDiff, reduceCtorEq, Int.reduceNeg, Int.reduceToNat, Int.reduceLT, Int.reduceLE, Int.reduceGE, Int.reduceGT, Int.reduceEq, g2]
      refine ACs.pure (User_pure x2 p2 (by omega)) ?_
      simp (dsimp := false) only [go_sem, ↓reduceIte, Nat.reduceEqDiff, Nat.reduceLT, Nat.reduceAdd, Nat.reduceSub, Nat.reduceMul, Nat.reduceLeDiff, reduceCtorEq, Int.reduceNeg, Int.reduceToNat, Int.reduceLT, Int.reduceLE, Int.reduceGE, Int.reduceGT, Int.reduceEq, hu, prinA]
      refine ACs.of (Next_own bs at2 9 k1 _ _ (by first | exact Own.set_same _ _ _ | (simp only [a1, a2, Own.set_same]; done)) r2 s2 hb (by decide) (by decide) ?_)
      simp (dsimp := false) only [go_sem, ↓reduceIte, Nat.reduceEqDiff, Nat.reduceLT, Nat.reduceAdd, Nat.reduceSub, Nat.reduceMul, Nat.reduceLeDiff, reduceCtorEq, Int.reduceNeg, Int.reduceToNat, Int.reduceLT, Int.reduceLE, Int.reduceGE, Int.reduceGT, Int.reduceEq, g3]
      refine ACs.pure (Session_pure x3 p3 (by omega)) ?_
      simp (dsimp := false) only [go_sem, ↓reduceIte, Nat.reduceEqDiff, Nat.reduceLT, Nat.reduceAdd, Nat.reduceSub, Nat.reduceMul, Nat.reduceLeDiff, reduceCtorEq, Int.reduceNeg, Int.reduceToNat, Int.reduceLT, Int.reduceLE, Int.reduceGE, Int.reduceGT, Int.reduceEq]
      refine ACs.of (Next_own bs at3 256 k1 _ _ (by first | exact Own.set_same _ _ _ | (simp only [a1, a2, Own.set_same]; done)) r3 s3 hb (by decide) (by decide) ?_)
      simp (dsimp := false) only [go_sem, ↓reduceIte, Nat.reduceEqDiff, Nat.reduceLT, Nat.reduceAdd, Nat.reduceSub, Nat.reduceMul, Nat.reduceLeDiff, reduceCtorEq, Int.reduceNeg, Int.reduceToNat, Int.reduceLT, Int.reduceLE, Int.reduceGE, Int.reduceGT, Int.reduceEq, g4]
      intro k2 hk2
      have n2 := none_ne hk2
      rw [Own.set_ne _ _ n2] at hk2
      have n3 := none_ne hk2
      have b1 : ∀ (own : Own) o, (own.set k2 o) k1 = own k1 := fun own o => Own.set_ne _ _ (Ne.symm n2)
      have b2 : ∀ (own : Own) o, (own.set k1 o) k2 = own k2 := fun own o => Own.set_ne _ _ n2
      have b3 : ∀ (own : Own) o, (own.set k2 o) k = own k := fun own o => Own.set_ne _ _ (Ne.symm n3)
      have b4 : ∀ (own : Own) o, (own.set k o) k2 = own k2 := fun own o => Own.set_ne _ _ n3
      refine ACs.of (Next_own bs at4 200 k1 _ _ (by first | exact Own.set_same _ _ _ | (simp only [a1, a2, b1, b2, b3, b4, Own.set_same]; done)) r4 s4 hb (by decide) (by decide) ?_)
      simp (dsimp := false) only [go_sem, ↓reduceIte, Nat.reduceEqDiff, Nat.reduceLT, Nat.reduceAdd, Nat.reduceSub, Nat.reduceMul, Nat.reduceLeDiff, reduceCtorEq, Int.reduceNeg, Int.reduceToNat, Int.reduceLT, Int.reduceLE, Int.reduceGE, Int.reduceGT, Int.reduceEq, g5, a1, a2, b1, b2, b3, b4]
      refine ACs.of (Next_own bs at5 256 k1 _ _ (by first | exact Own.set_same _ _ _ | (simp only [a1, a2, b1, b2, b3, b4, Own.set_same]; done)) r5 s5 hb (by decide) (by decide) ?_)
      simp (dsimp := false) only [go_sem, ↓reduceIte, Nat.reduceEqDiff, Nat.reduceLT, Nat.reduceAdd, Nat.reduceSub, Nat.reduceMul, Nat.reduceLeDiff, reduceCtorEq, Int.reduceNeg, Int.reduceToNat, Int.reduceLT, Int.reduceLE, Int.reduceGE, Int.reduceGT, Int.reduceEq, g6, e1, a1, a2, b1, b2, b3, b4]
      refine ACs.of (Next_own bs at6 256 k1 _ _ (by first | exact Own.set_same _ _ _ | (simp only [a1, a2, b1, b2, b3, b4, Own.set_same]; done)) r6 s6 hb (by decide) (by decide) ?_)
      simp (dsimp := false) only [go_sem, ↓reduceIte, Nat.reduceEqDiff, Nat.reduceLT, Nat.reduceAdd, Nat.reduceSub, Nat.reduceMul, Nat.reduceLeDiff, reduceCtorEq, Int.reduceNeg, Int.reduceToNat, Int.reduceLT, Int.reduceLE, Int.reduceGE, Int.reduceGT, Int.reduceEq, g7, e2, a1, a2, b1, b2, b3, b4]
      refine ACs.of (Next_own bs at7 9 k1 _ _ (by first | exact Own.set_same _ _ _ | (simp only [a1, a2, b1, b2, b3, b4, Own.set_same]; done)) r7 s7 hb (by decide) (by decide) ?_)
      simp (dsimp := false) only [go_sem, ↓reduceIte, Nat.reduceEqDiff, Nat.reduceLT, Nat.reduceAdd, Nat.reduceSub, Nat.reduceMul, Nat.reduceLeDiff, reduceCtorEq, Int.reduceNeg, Int.reduceToNat, Int.reduceLT, Int.reduceLE, Int.reduceGE, Int.reduceGT, Int.reduceEq, g8, a1, a2, b1, b2, b3, b4]
      refine ACs.pure (Service_pure x8 p8 (by omega)) ?_
      simp (dsimp := false) only [go_sem, ↓reduceIte, Nat.reduceEqDiff, Nat.reduceLT, Nat.reduceAdd, Nat.reduceSub, Nat.reduceMul, Nat.reduceLeDiff, reduceCtorEq, Int.reduceNeg, Int.reduceToNat, Int.reduceLT, Int.reduceLE, Int.reduceGE, Int.reduceGT, Int.reduceEq, hs, prinA]
      intro k3 hk3
      have m1 : k3 ≠ k1 := fun h => by rw [h] at hk3; simp only [a1, a2, b1, b2, b3, b4, Own.set_same, reduceCtorEq] at hk3
      have m2 : k3 ≠ k2 := fun h => by rw [h] at hk3; simp only [a1, a2, b1, b2, b3, b4, Own.set_same, reduceCtorEq] at hk3
      have m3 : k3 ≠ k := fun h => by rw [h] at hk3; simp only [a1, a2, b1, b2, b3, b4, Own.set_same, reduceCtorEq] at hk3
      have d1 : ∀ (own : Own) o, (own.set k3 o) k1 = own k1 := fun own o => Own.set_ne _ _ (Ne.symm m1)
      have d2 : ∀ (own : Own) o, (own.set k3 o) k2 = own k2 := fun own o => Own.set_ne _ _ (Ne.symm m2)
      have d3 : ∀ (own : Own) o, (own.set k3 o) k = own k := fun own o => Own.set_ne _ _ (Ne.symm m3)
      have d4 : ∀ (own : Own) o, (own.set k1 o) k3 = own k3 := fun own o => Own.set_ne _ _ m1
      have d5 : ∀ (own : Own) o, (own.set k2 o) k3 = own k3 := fun own o => Own.set_ne _ _ m2
      have d6 : ∀ (own : Own) o, (own.set k o) k3 = own k3 := fun own o => Own.set_ne _ _ m3
      (try simp (dsimp := false) only [go_sem, ↓reduceIte, Nat.reduceEqDiff, Nat.reduceLT, Nat.reduceAdd, Nat.reduceSub, Nat.reduceMul, Nat.reduceLeDiff, reduceCtorEq, Int.reduceNeg, Int.reduceToNat, Int.reduceLT, Int.reduceLE, Int.reduceGE, Int.reduceGT, Int.reduceEq, a1, a2, b1, b2, b3, b4, d1, d2, d3, d4, d5, d6])
      have y1 : ∀ (own : Own), (own.del k3) k1 = own k1 := fun own => Own.del_ne _ (Ne.symm m1)
      have y2 : ∀ (own : Own), (own.del k3) k2 = own k2 := fun own => Own.del_ne _ (Ne.symm m2)
      have y3 : ∀ (own : Own), (own.del k3) k = own k := fun own => Own.del_ne _ (Ne.symm m3)
      refine AW.ghost (Ghost.slot (t := 5) (Weak1.box (k := k3) (o := ⟨29, [.raw (.string v1), .raw (.string v2), .raw (.string v3)], 0, 3⟩) (d := .st [.raw (.string v1), .raw (.string v2), .raw (.string v3)]) (by first | (simp only [a1, a2, b1, b2, b3, b4, d1, d2, d3, d4, d5, d6, Own.set_same]; done) | (simp only [a1, a2, b1, b2, b3, b4, d1, d2, d3, d4, d5, d6, Own.set_same]; rfl)) rfl rfl)) ?_
      refine AW.draw (M := []) [.v, .v, .v, .v, .v, .e, .v, .e] mixed (by kernel_rfl) ?_
      simp (dsimp := false) only [go_sem, ↓reduceIte, Nat.reduceEqDiff, Nat.reduceLT, Nat.reduceAdd, Nat.reduceSub, Nat.reduceMul, Nat.reduceLeDiff, reduceCtorEq, Int.reduceNeg, Int.reduceToNat, Int.reduceLT, Int.reduceLE, Int.reduceGE, Int.reduceGT, Int.reduceEq, a1, a2, b1, b2, b3, b4, d1, d2, d3, d4, d5, d6, y1, y2, y3]
      refine ACs.of (Next_own bs at8 7 k1 _ _ (by first | exact Own.set_same _ _ _ | (simp only [a1, a2, b1, b2, b3, b4, d1, d2, d3, d4, d5, d6, y1, y2, y3, Own.set_same]; done)) r8 s8 hb (by decide) (by decide) ?_)
      simp (dsimp := false) only [go_sem, ↓reduceIte, Nat.reduceEqDiff, Nat.reduceLT, Nat.reduceAdd, Nat.reduceSub, Nat.reduceMul, Nat.reduceLeDiff, reduceCtorEq, Int.reduceNeg, Int.reduceToNat, Int.reduceLT, Int.reduceLE, Int.reduceGE, Int.reduceGT, Int.reduceEq, g9, h9, a1, a2, b1, b2, b3, b4, d1, d2, d3, d4, d5, d6, y1, y2, y3]
      refine ACs.of (Next_own bs at9 9 k1 _ _ (by first | exact Own.set_same _ _ _ | (simp only [a1, a2, b1, b2, b3, b4, d1, d2, d3, d4, d5, d6, y1, y2, y3, Own.set_same]; done)) r9 s9 hb (by decide) (by decide) ?_)
      simp (dsimp := false) only [go_sem, ↓reduceIte, Nat.reduceEqDiff, Nat.reduceLT, Nat.reduceAdd, Nat.reduceSub, Nat.reduceMul, Nat.reduceLeDiff, reduceCtorEq, Int.reduceNeg, Int.reduceToNat, Int.reduceLT, Int.reduceLE, Int.reduceGE, Int.reduceGT, Int.reduceEq, g12, h10, a1, a2, b1, b2, b3, b4, d1, d2, d3, d4, d5, d6, y1, y2, y3]
      refine ACs.of (Next_own bs at12 2 k1 _ _ (by first | exact Own.set_same _ _ _ | (simp only [a1, a2, b1, b2, b3, b4, d1, d2, d3, d4, d5, d6, y1, y2, y3, Own.set_same]; done)) r12 s12 hb (by decide) (by decide) ?_)
      simp (dsimp := false) only [go_sem, ↓reduceIte, Nat.reduceEqDiff, Nat.reduceLT, Nat.reduceAdd, Nat.reduceSub, Nat.reduceMul, Nat.reduceLeDiff, reduceCtorEq, Int.reduceNeg, Int.reduceToNat, Int.reduceLT, Int.reduceLE, Int.reduceGE, Int.reduceGT, Int.reduceEq, g13]
      refine ACs.pure hL ?_
      simp (dsimp := false) only [go_sem, ↓reduceIte, Nat.reduceEqDiff, Nat.reduceLT, Nat.reduceAdd, Nat.reduceSub, Nat.reduceMul, Nat.reduceLeDiff, reduceCtorEq, Int.reduceNeg, Int.reduceToNat, Int.reduceLT, Int.reduceLE, Int.reduceGE, Int.reduceGT, Int.reduceEq, prinA, a1, a2, b1, b2, b3, b4, d1, d2, d3, d4, d5, d6, y1, y2, y3]
      refine ACs.pure (Longest_pure 0 (by decide)) ?_
      simp (dsimp := false) only [go_sem, ↓reduceIte, Nat.reduceEqDiff, Nat.reduceLT, Nat.reduceAdd, Nat.reduceSub, Nat.reduceMul, Nat.reduceLeDiff, reduceCtorEq, Int.reduceNeg, Int.reduceToNat, Int.reduceLT, Int.reduceLE, Int.reduceGE, Int.reduceGT, Int.reduceEq, prinA]
      refine ACs.pure (Longest_pure 0 (by decide)) ?_
      simp (dsimp := false) only [go_sem, ↓reduceIte, Nat.reduceEqDiff, Nat.reduceLT, Nat.reduceAdd, Nat.reduceSub, Nat.reduceMul, Nat.reduceLeDiff, reduceCtorEq, Int.reduceNeg, Int.reduceToNat, Int.reduceLT, Int.reduceLE, Int.reduceGE, Int.reduceGT, Int.reduceEq, prinA, a1, a2, b1, b2, b3, b4, d1, d2, d3, d4, d5, d6, y1, y2, y3]
      (try rfl)
    ·
      refine ⟨ticketA (decide (x1 = 1)) u1 u2 u3 x5 (144115188075855873 + x3) x4 (x6 * 150 + x7) v1 v2, ?_, ⟨_, _, _, _, _, _, _, _, _, _, rfl, hv, hw.1, hw.2, hc, by omega, by omega, by omega, by omega, by omega⟩⟩
      refine PC.of_ac ?_
      refine AC.of_body (M := [8]) Tryz.func27 rfl (by kernel_rfl) (Nat.le_of_ble_eq_true rfl) ?_; simp only [Tryz.results27, Tryz.ntmps27]
      simp (dsimp := false) only [go_sem, ↓reduceIte, Nat.reduceEqDiff, Nat.reduceLT, Nat.reduceAdd, Nat.reduceSub, Nat.reduceMul, Nat.reduceLeDiff, reduceCtorEq, Int.reduceNeg, Int.reduceToNat, Int.reduceLT, Int.reduceLE, Int.reduceGE, Int.reduceGT, Int.reduceEq]
      intro k hk0 k1 hk1
      have n1 := none_ne hk1
      have a1 : ∀ (own : Own) o, (own.set k1 o) k = own k := fun own o => Own.set_ne _ _ (Ne.symm n1)
      have a2 : ∀ (own : Own) o, (own.set k o) k1 = own k1 := fun own o => Own.set_ne _ _ n1
      refine ACs.of (Next_own bs 0 2 k1 _ _ (by first | exact Own.set_same _ _ _ | (simp only [a1, a2, Own.set_same]; done)) (Int.le_refl _) (by omega) hb (by decide) (by decide) ?_)
      simp (dsimp := false) only [go_sem, ↓reduceIte, Nat.reduceEqDiff, Nat.reduceLT, Nat.reduceAdd, Nat.reduceSub, Nat.reduceMul, Nat.reduceLeDiff, reduceCtorEq, Int.reduceNeg, Int.reduceToNat, Int.reduceLT, Int.reduceLE, Int.reduceGE, Int.reduceGT, Int.reduceEq, g1]
      refine ACs.of (Next_own bs at1 9 k1 _ _ (by first | exact Own.set_same _ _ _ | (simp only [a1, a2, Own.set_same]; done)) r1 s1 hb (by decide) (by decide) ?_)
      simp (dsimp := false) only [go_sem, ↓reduceIte, Nat.reduceEqDiff, Nat.reduceLT, Nat.reduceAdd, Nat.reduceSub, Nat.reduceMul, Nat.reduceLeDiff, reduceCtorEq, Int.reduceNeg, Int.reduceToNat, Int.reduceLT, Int.reduceLE, Int.reduceGE, Int.reduceGT, Int.reduceEq, g2]
      refine ACs.pure (User_pure x2 p2 (by omega)) ?_
      simp (dsimp := false) only [go_sem, ↓reduceIte, Nat.reduceEqDiff, Nat.reduceLT, Nat.reduceAdd, Nat.reduceSub, Nat.reduceMul, Nat.reduceLeDiff, reduceCtorEq, Int.reduceNeg, Int.reduceToNat, Int.reduceLT, Int.reduceLE, Int.reduceGE, Int.reduceGT, Int.reduceEq, hu, prinA]
      refine ACs.of (Next_own bs at2 9 k1 _ _ (by first | exact Own.set_same _ _ _ | (simp only [a1, a2, Own.set_same]; done)) r2 s2 hb (by decide) (by decide) ?_)
      simp (dsimp := false) only [go_sem, ↓reduceIte, Nat.reduceEqDiff, Nat.reduceLT, Nat.reduceAdd, Nat.reduceSub, Nat.reduceMul, Nat.reduceLeDiff, reduceCtorEq, Int.reduceNeg, Int.reduceToNat, Int.reduceLT, Int.reduceLE, Int.reduceGE, Int.reduceGT, Int.reduceEq, g3]
      refine ACs.pure (Session_pure x3 p3 (by omega)) ?_
      simp (dsimp := false) only [go_sem, ↓reduceIte, Nat.reduceEqDiff, Nat.reduceLT, Nat.reduceAdd, Nat.reduceSub, Nat.reduceMul, Nat.reduceLeDiff, reduceCtorEq, Int.reduceNeg, Int.reduceToNat, Int.reduceLT, Int.reduceLE, Int.reduceGE, Int.reduceGT, Int.reduceEq]
      refine ACs.of (Next_own bs at3 256 k1 _ _ (by first | exact Own.set_same _ _ _ | (simp only [a1, a2, Own.set_same]; done)) r3 s3 hb (by decide) (by decide) ?_)
      simp (dsimp := false) only [go_sem, ↓reduceIte, Nat.reduceEqDiff, Nat.reduceLT, Nat.reduceAdd, Nat.reduceSub, Nat.reduceMul, Nat.reduceLeDiff, reduceCtorEq, Int.reduceNeg, Int.reduceToNat, Int.reduceLT, Int.reduceLE, Int.reduceGE, Int.reduceGT, Int.reduceEq, g4]
      intro k2 hk2
      have n2 := none_ne hk2
      rw [Own.set_ne _ _ n2] at hk2
      have n3 := none_ne hk2
      have b1 : ∀ (own : Own) o, (own.set k2 o) k1 = own k1 := fun own o => Own.set_ne _ _ (Ne.symm n2)
      have b2 : ∀ (own : Own) o, (own.set k1 o) k2 = own k2 := fun own o => Own.set_ne _ _ n2
      have b3 : ∀ (own : Own) o, (own.set k2 o) k = own k := fun own o => Own.set_ne _ _ (Ne.symm n3)
      have b4 : ∀ (own : Own) o, (own.set k o) k2 = own k2 := fun own o => Own.set_ne _ _ n3
      refine ACs.of (Next_own bs at4 200 k1 _ _ (by first | exact Own.set_same _ _ _ | (simp only [a1, a2, b1, b2, b3, b4, Own.set_same]; done)) r4 s4 hb (by decide) (by decide) ?_)
      simp (dsimp := false) only [go_sem, ↓reduceIte, Nat.reduceEqDiff, Nat.reduceLT, Nat.reduceAdd, Nat.reduceSub, Nat.reduceMul, Nat.reduceLeDiff, reduceCtorEq, Int.reduceNeg, Int.reduceToNat, Int.reduceLT, Int.reduceLE, Int.reduceGE, Int.reduceGT, Int.reduceEq, g5, a1, a2, b1, b2, b3, b4]
      refine ACs.of (Next_own bs at5 256 k1 _ _ (by first | exact Own.set_same _ _ _ | (simp only [a1, a2, b1, b2, b3, b4, Own.set_same]; done)) r5 s5 hb (by decide) (by decide) ?_)
      simp (dsimp := false) only [go_sem, ↓reduceIte, Nat.reduceEqDiff, Nat.reduceLT, Nat.reduceAdd, Nat.reduceSub, Nat.reduceMul, Nat.reduceLeDiff, reduceCtorEq, Int.reduceNeg, Int.reduceToNat, Int.reduceLT, Int.reduceLE, Int.reduceGE, Int.reduceGT, Int.reduceEq, g6, e1, a1, a2, b1, b2, b3, b4]
      refine ACs.of (Next_own bs at6 256 k1 _ _ (by first | exact Own.set_same _ _ _ | (simp only [a1, a2, b1, b2, b3, b4, Own.set_same]; done)) r6 s6 hb (by decide) (by decide) ?_)
      simp (dsimp := false) only [go_sem, ↓reduceIte, Nat.reduceEqDiff, Nat.reduceLT, Nat.reduceAdd, Nat.reduceSub, Nat.reduceMul, Nat.reduceLeDiff, reduceCtorEq, Int.reduceNeg, Int.reduceToNat, Int.reduceLT, Int.reduceLE, Int.reduceGE, Int.reduceGT, Int.reduceEq, g7, e2, a1, a2, b1, b2, b3, b4]
      refine ACs.of (Next_own bs at7 9 k1 _ _ (by first | exact Own.set_same _ _ _ | (simp only [a1, a2, b1, b2, b3, b4, Own.set_same]; done)) r7 s7 hb (by decide) (by decide) ?_)
      simp (dsimp := false) only [go_sem, ↓reduceIte, Nat.reduceEqDiff, Nat.reduceLT, Nat.reduceAdd, Nat.reduceSub, Nat.reduceMul, Nat.reduceLeDiff, reduceCtorEq, Int.reduceNeg, Int.reduceToNat, Int.reduceLT, Int.reduceLE, Int.reduceGE, Int.reduceGT, Int.reduceEq, g8, a1, a2, b1, b2, b3, b4]
      refine ACs.pure (Service_pure x8 p8 (by omega)) ?_
      simp (dsimp := false) only [go_sem, ↓reduceIte, Nat.reduceEqDiff, Nat.reduceLT, Nat.reduceAdd, Nat.reduceSub, Nat.reduceMul, Nat.reduceLeDiff, reduceCtorEq, Int.reduceNeg, Int.reduceToNat, Int.reduceLT, Int.reduceLE, Int.reduceGE, Int.reduceGT, Int.reduceEq, hs, prinA]
      intro k3 hk3
      have m1 : k3 ≠ k1 := fun h => by rw [h] at hk3; simp only [a1, a2, b1, b2, b3, b4, Own.set_same, reduceCtorEq] at hk3
      have m2 : k3 ≠ k2 := fun h => by rw [h] at hk3; simp only [a1, a2, b1, b2, b3, b4, Own.set_same, reduceCtorEq] at hk3
      have m3 : k3 ≠ k := fun h => by rw [h] at hk3; simp only [a1, a2, b1, b2, b3, b4, Own.set_same, reduceCtorEq] at hk3
      have d1 : ∀ (own : Own) o, (own.set k3 o) k1 = own k1 := fun own o => Own.set_ne _ _ (Ne.symm m1)
      have d2 : ∀ (own : Own) o, (own.set k3 o) k2 = own k2 := fun own o => Own.set_ne _ _ (Ne.symm m2)
      have d3 : ∀ (own : Own) o, (own.set k3 o) k = own k := fun own o => Own.set_ne _ _ (Ne.symm m3)
      have d4 : ∀ (own : Own) o, (own.set k1 o) k3 = own k3 := fun own o => Own.set_ne _ _ m1
      have d5 : ∀ (own : Own) o, (own.set k2 o) k3 = own k3 := fun own o => Own.set_ne _ _ m2
      have d6 : ∀ (own : Own) o, (own.set k o) k3 = own k3 := fun own o => Own.set_ne _ _ m3
      (try simp (dsimp := false) only [go_sem, ↓reduceIte, Nat.reduceEqDiff, Nat.reduceLT, Nat.reduceAdd, Nat.reduceSub, Nat.reduceMul, Nat.reduceLeDiff, reduceCtorEq, Int.reduceNeg, Int.reduceToNat, Int.reduceLT, Int.reduceLE, Int.reduceGE, Int.reduceGT, Int.reduceEq, a1, a2, b1, b2, b3, b4, d1, d2, d3, d4, d5, d6])
      have y1 : ∀ (own : Own), (own.del k3) k1 = own k1 := fun own => Own.del_ne _ (Ne.symm m1)
      have y2 : ∀ (own : Own), (own.del k3) k2 = own k2 := fun own => Own.del_ne _ (Ne.symm m2)
      have y3 : ∀ (own : Own), (own.del k3) k = own k := fun own => Own.del_ne _ (Ne.symm m3)
      refine AW.ghost (Ghost.slot (t := 5) (Weak1.box (k := k3) (o := ⟨29, [.raw (.string v1), .raw (.string v2), .raw (.string v3)], 0, 3⟩) (d := .st [.raw (.string v1), .raw (.string v2), .raw (.string v3)]) (by first | (simp only [a1, a2, b1, b2, b3, b4, d1, d2, d3, d4, d5, d6, Own.set_same]; done) | (simp only [a1, a2, b1, b2, b3, b4, d1, d2, d3, d4, d5, d6, Own.set_same]; rfl)) rfl rfl)) ?_
      refine AW.draw (M := []) [.v, .v, .v, .v, .v, .e, .v, .e] mixed (by kernel_rfl) ?_
      simp (dsimp := false) only [go_sem, ↓reduceIte, Nat.reduceEqDiff, Nat.reduceLT, Nat.reduceAdd, Nat.reduceSub, Nat.reduceMul, Nat.reduceLeDiff, reduceCtorEq, Int.reduceNeg, Int.reduceToNat, Int.reduceLT, Int.reduceLE, Int.reduceGE, Int.reduceGT, Int.reduceEq, a1, a2, b1, b2, b3, b4, d1, d2, d3, d4, d5, d6, y1, y2, y3]
      refine ACs.of (Next_own bs at8 7 k1 _ _ (by first | exact Own.set_same _ _ _ | (simp only [a1, a2, b1, b2, b3, b4, d1, d2, d3, d4, d5, d6, y1, y2, y3, Own.set_same]; done)) r8 s8 hb (by decide) (by decide) ?_)
      simp (dsimp := false) only [go_sem, ↓reduceIte, Nat.reduceEqDiff, Nat.reduceLT, Nat.reduceAdd, Nat.reduceSub, Nat.reduceMul, Nat.reduceLeDiff, reduceCtorEq, Int.reduceNeg, Int.reduceToNat, Int.reduceLT, Int.reduceLE, Int.reduceGE, Int.reduceGT, Int.reduceEq, g9, h9, a1, a2, b1, b2, b3, b4, d1, d2, d3, d4, d5, d6, y1, y2, y3]
      refine ACs.of (Next_own bs at9 9 k1 _ _ (by first | exact Own.set_same _ _ _ | (simp only [a1, a2, b1, b2, b3, b4, d1, d2, d3, d4, d5, d6, y1, y2, y3, Own.set_same]; done)) r9 s9 hb (by decide) (by decide) ?_)
      simp (dsimp := false) only [go_sem, ↓reduceIte, Nat.reduceEqDiff, Nat.reduceLT, Nat.reduceAdd, Nat.reduceSub, Nat.reduceMul, Nat.reduceLeDiff, reduceCtorEq, Int.reduceNeg, Int.reduceToNat, Int.reduceLT, Int.reduceLE, Int.reduceGE, Int.reduceGT, Int.reduceEq, g12, h10, a1, a2, b1, b2, b3, b4, d1, d2, d3, d4, d5, d6, y1, y2, y3]
      (try rfl)
end Go.Proofs.YtghnigbihllnmaaGreat.Fn
