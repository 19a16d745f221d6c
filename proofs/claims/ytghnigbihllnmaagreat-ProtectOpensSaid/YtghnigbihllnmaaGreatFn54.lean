/- The content of a protected message. -/
import Derived.Test.YtghnigbihllnmaaGreatFn52
set_option linter.unusedVariables false
set_option linter.unusedSimpArgs false
namespace Go.Proofs.YtghnigbihllnmaaGreat.Fn
open Go Hl Sp Ty
set_option maxRecDepth 100000
def conA (lt : Bool) (x : List UInt8) (ti ad tm : Int) : AV := .st [.lst 1 (x.map byteA), .raw (.int .i64 ti), .raw (.int .i64 ad), .raw (.int .i64 tm)]
/-- The first error. -/
def conChk (lt : Bool) (x : List UInt8) (ti ad tm : Int) : Int := if (x.length : Int) > 500 then 105 else if ti < 0 ∨ ti > 199 ∨ ad < 0 ∨ ad > 4294967295 ∨ tm < 0 ∨ tm > 4294967295 then 104 else 0
/-- The fields behind the header. -/
def conF (lt : Bool) (x : List UInt8) (ti ad tm : Int) : List UInt8 := numB (x.length : Int) 2 lt ++ x ++ [u8 ti] ++ numB ad 4 lt ++ numB tm 4 lt
def conB (lt : Bool) (x : List UInt8) (ti ad tm : Int) : List UInt8 := padB ([u8 (flagZ lt)] ++ conF lt x ti ad tm)
theorem conF_length (lt : Bool) (x : List UInt8) (ti ad tm : Int) : (conF lt x ti ad tm).length = 2 + x.length + 1 + 4 + 4 := by
  simp only [conF, List.length_append, prinB_length, numB_length, textB_length, List.length_singleton] <;> omega
/-- What the encoder answers. -/
def conE (lt : Bool) (x : List UInt8) (ti ad tm : Int) : AV := .tup [.lst 1 ((if conChk lt x ti ad tm = 0 then conB lt x ti ad tm else []).map byteA), .raw (.int .i64 (conChk lt x ti ad tm))]
theorem conChk_ok {lt : Bool} {x : List UInt8} {ti : Int} {ad : Int} {tm : Int} (h : conChk lt x ti ad tm = 0) : (x.length : Int) ≤ 500 ∧ (0 ≤ ti ∧ ti ≤ 199) ∧ (0 ≤ ad ∧ ad ≤ 4294967295) ∧ (0 ≤ tm ∧ tm ≤ 4294967295) := by
  unfold conChk at h
  split at h
  · cases h
  · rename_i h0
    split at h
    · cases h
    · rename_i h1
      exact ⟨(by omega), (by omega), (by omega), (by omega)⟩
/-- Without errors. -/
def conOk (lt : Bool) (x : List UInt8) (ti ad tm : Int) : Prop := conChk lt x ti ad tm = 0
theorem conOk_chk {lt : Bool} {x : List UInt8} {ti : Int} {ad : Int} {tm : Int} (h : conOk lt x ti ad tm) : conChk lt x ti ad tm = 0 := h
/-- What is read of the fields. -/
def conR (b : List UInt8) (lt : Bool) (s0 : Int × Bool) : Int × List UInt8 × Int × Int × Int × Bool :=
  let y1 := cNum b 2 lt s0
  let y2 := cByt b y1.1 y1.2
  let y3 := cNum b 1 false y2.2
  let y4 := cNum b 4 lt y3.2
  let y5 := cNum b 4 lt y4.2
  (y1.1, y2.1, y3.1, y4.1, y5.1, y5.2.2)
theorem conR_ok (pre post : List UInt8) (lt : Bool) (x : List UInt8) (ti : Int) (ad : Int) (tm : Int) (g1 : 0 ≤ (x.length : Int) ∧ (x.length : Int) ≤ 65535) (g2 : (x.length : Int) = (x.length : Int)) (g3 : 0 ≤ ti ∧ ti ≤ 255) (g4 : 0 ≤ ad ∧ ad ≤ 4294967295) (g5 : 0 ≤ tm ∧ tm ≤ 4294967295) : conR (pre ++ (conF lt x ti ad tm ++ post)) lt (pre.length, false) = ((x.length : Int), x, ti, ad, tm, false) := by
  obtain ⟨b, hb⟩ : ∃ b, b = pre ++ (conF lt x ti ad tm ++ post) := ⟨_, rfl⟩
  obtain ⟨B1, hc1⟩ : ∃ B, B = numB (x.length : Int) 2 lt := ⟨_, rfl⟩
  have hl1 : B1.length = 2 := by rw [hc1]; simp only [prinB_length, numB_length, textB_length]
  obtain ⟨c3, hc3⟩ : ∃ c, c = u8 ti := ⟨_, rfl⟩
  have hu3 : (c3.toNat : Int) = ti := by rw [hc3, u8_toNat]; omega
  obtain ⟨B4, hc4⟩ : ∃ B, B = numB ad 4 lt := ⟨_, rfl⟩
  have hl4 : B4.length = 4 := by rw [hc4]; simp only [prinB_length, numB_length, textB_length]
  obtain ⟨B5, hc5⟩ : ∃ B, B = numB tm 4 lt := ⟨_, rfl⟩
  have hl5 : B5.length = 4 := by rw [hc5]; simp only [prinB_length, numB_length, textB_length]
  have q1 : b = pre ++ (B1 ++ (x ++ (c3 :: (B4 ++ (B5 ++ post))))) := by rw [hb, hc1, hc3, hc4, hc5]; simp [conF]
  have q2 : b = (pre ++ B1) ++ (x ++ (c3 :: (B4 ++ (B5 ++ post)))) := by rw [q1]; simp
  have q3 : b = (pre ++ B1 ++ x) ++ (c3 :: (B4 ++ (B5 ++ post))) := by rw [q1]; simp
  have q4 : b = (pre ++ B1 ++ x ++ [c3]) ++ (B4 ++ (B5 ++ post)) := by rw [q1]; simp
  have q5 : b = (pre ++ B1 ++ x ++ [c3] ++ B4) ++ (B5 ++ post) := by rw [q1]; simp
  have r1 := cNum_num pre (x ++ (c3 :: (B4 ++ (B5 ++ post)))) (x.length : Int) 2 lt g1.1 (by omega)
  rw [← hc1, ← q1] at r1
  have r2 := cByt_at (pre ++ B1) x (c3 :: (B4 ++ (B5 ++ post))) (x.length : Int) g2
  have p2 : ((pre ++ B1).length : Int) = (pre.length : Int) + ((2 : Nat) : Int) := by simp only [List.length_append, List.length_singleton, hl1]; omega
  rw [← q2, p2] at r2
  have r3 := cNum_one (pre ++ B1 ++ x) (B4 ++ (B5 ++ post)) c3
  have p3 : ((pre ++ B1 ++ x).length : Int) = (pre.length : Int) + ((2 : Nat) : Int) + (x.length : Int) := by simp only [List.length_append, List.length_singleton, hl1]; omega
  rw [← q3, p3] at r3
  have r4 := cNum_num (pre ++ B1 ++ x ++ [c3]) (B5 ++ post) ad 4 lt g4.1 (by omega)
  have p4 : ((pre ++ B1 ++ x ++ [c3]).length : Int) = (pre.length : Int) + ((2 : Nat) : Int) + (x.length : Int) + 1 := by simp only [List.length_append, List.length_singleton, hl1]; omega
  rw [← hc4, ← q4, p4] at r4
  have r5 := cNum_num (pre ++ B1 ++ x ++ [c3] ++ B4) post tm 4 lt g5.1 (by omega)
  have p5 : ((pre ++ B1 ++ x ++ [c3] ++ B4).length : Int) = (pre.length : Int) + ((2 : Nat) : Int) + (x.length : Int) + 1 + ((4 : Nat) : Int) := by simp only [List.length_append, List.length_singleton, hl1, hl4]; omega
  rw [← hc5, ← q5, p5] at r5
  rw [← hb]
  unfold conR
  simp only [r1, r2, r3, r4, r5, hu3]
/-- What is read of the fields. -/
def conRr (b : List UInt8) (lt : Bool) (s0 : Int × Bool) : Int × List UInt8 × Int × Int × Int × Bool :=
  let y1 := rNum b 2 lt s0
  let y2 := rByt b y1.1 y1.2
  let y3 := rNum b 1 false y2.2
  let y4 := rNum b 4 lt y3.2
  let y5 := rNum b 4 lt y4.2
  (y1.1, y2.1, y3.1, y4.1, y5.1, y5.2.2)
theorem conRr_ok (pre post : List UInt8) (lt : Bool) (x : List UInt8) (ti : Int) (ad : Int) (tm : Int) (g1 : 0 ≤ (x.length : Int) ∧ (x.length : Int) ≤ 65535) (g2 : (x.length : Int) = (x.length : Int)) (g3 : 0 ≤ ti ∧ ti ≤ 255) (g4 : 0 ≤ ad ∧ ad ≤ 4294967295) (g5 : 0 ≤ tm ∧ tm ≤ 4294967295) : conRr (pre ++ (conF lt x ti ad tm ++ post)) lt (pre.length, false) = ((x.length : Int), x, ti, ad, tm, false) := by
  obtain ⟨b, hb⟩ : ∃ b, b = pre ++ (conF lt x ti ad tm ++ post) := ⟨_, rfl⟩
  obtain ⟨B1, hc1⟩ : ∃ B, B = numB (x.length : Int) 2 lt := ⟨_, rfl⟩
  have hl1 : B1.length = 2 := by rw [hc1]; simp only [prinB_length, numB_length, textB_length]
  obtain ⟨c3, hc3⟩ : ∃ c, c = u8 ti := ⟨_, rfl⟩
  have hu3 : (c3.toNat : Int) = ti := by rw [hc3, u8_toNat]; omega
  obtain ⟨B4, hc4⟩ : ∃ B, B = numB ad 4 lt := ⟨_, rfl⟩
  have hl4 : B4.length = 4 := by rw [hc4]; simp only [prinB_length, numB_length, textB_length]
  obtain ⟨B5, hc5⟩ : ∃ B, B = numB tm 4 lt := ⟨_, rfl⟩
  have hl5 : B5.length = 4 := by rw [hc5]; simp only [prinB_length, numB_length, textB_length]
  have q1 : b = pre ++ (B1 ++ (x ++ (c3 :: (B4 ++ (B5 ++ post))))) := by rw [hb, hc1, hc3, hc4, hc5]; simp [conF]
  have q2 : b = (pre ++ B1) ++ (x ++ (c3 :: (B4 ++ (B5 ++ post)))) := by rw [q1]; simp
  have q3 : b = (pre ++ B1 ++ x) ++ (c3 :: (B4 ++ (B5 ++ post))) := by rw [q1]; simp
  have q4 : b = (pre ++ B1 ++ x ++ [c3]) ++ (B4 ++ (B5 ++ post)) := by rw [q1]; simp
  have q5 : b = (pre ++ B1 ++ x ++ [c3] ++ B4) ++ (B5 ++ post) := by rw [q1]; simp
  have r1 := rNum_num pre (x ++ (c3 :: (B4 ++ (B5 ++ post)))) (x.length : Int) 2 lt g1.1 (by omega)
  rw [← hc1, ← q1] at r1
  have r2 := rByt_at (pre ++ B1) x (c3 :: (B4 ++ (B5 ++ post))) (x.length : Int) g2
  have p2 : ((pre ++ B1).length : Int) = (pre.length : Int) + ((2 : Nat) : Int) := by simp only [List.length_append, List.length_singleton, hl1]; omega
  rw [← q2, p2] at r2
  have r3 := rNum_one (pre ++ B1 ++ x) (B4 ++ (B5 ++ post)) c3
  have p3 : ((pre ++ B1 ++ x).length : Int) = (pre.length : Int) + ((2 : Nat) : Int) + (x.length : Int) := by simp only [List.length_append, List.length_singleton, hl1]; omega
  rw [← q3, p3] at r3
  have r4 := rNum_num (pre ++ B1 ++ x ++ [c3]) (B5 ++ post) ad 4 lt g4.1 (by omega)
  have p4 : ((pre ++ B1 ++ x ++ [c3]).length : Int) = (pre.length : Int) + ((2 : Nat) : Int) + (x.length : Int) + 1 := by simp only [List.length_append, List.length_singleton, hl1]; omega
  rw [← hc4, ← q4, p4] at r4
  have r5 := rNum_num (pre ++ B1 ++ x ++ [c3] ++ B4) post tm 4 lt g5.1 (by omega)
  have p5 : ((pre ++ B1 ++ x ++ [c3] ++ B4).length : Int) = (pre.length : Int) + ((2 : Nat) : Int) + (x.length : Int) + 1 + ((4 : Nat) : Int) := by simp only [List.length_append, List.length_singleton, hl1, hl4]; omega
  rw [← hc5, ← q5, p5] at r5
  rw [← hb]
  unfold conRr
  simp only [r1, r2, r3, r4, r5, hu3]
/-- These bytes are those of this message. -/
def conIs (b : List UInt8) (lt : Bool) (x : List UInt8) (ti ad tm : Int) : Prop := conOk lt x ti ad tm ∧ conB lt x ti ad tm = b
theorem conIs.read {b : List UInt8} {lt : Bool} {x : List UInt8} {ti : Int} {ad : Int} {tm : Int} (h : conIs b lt x ti ad tm) : conR b lt (1, false) = ((x.length : Int), x, ti, ad, tm, false) := by
  obtain ⟨h1, rfl⟩ := h
  have hc := conChk_ok (conOk_chk h1)
  obtain ⟨c1, c2, c3, c4⟩ := hc
  have := conR_ok ([u8 (flagZ lt)]) (List.replicate (padN ([u8 (flagZ lt)] ++ conF lt x ti ad tm).length) 0) lt x ti ad tm (⟨by omega, by omega⟩) (rfl) (⟨by omega, by omega⟩) (c3) (c4)
  rw [show (([u8 (flagZ lt)]).length : Int) = 1 from rfl] at this
  rw [conB, padB, List.append_assoc]
  exact this
theorem conIs.rread {b : List UInt8} {lt : Bool} {x : List UInt8} {ti : Int} {ad : Int} {tm : Int} (h : conIs b lt x ti ad tm) : conRr b lt (1, false) = ((x.length : Int), x, ti, ad, tm, false) := by
  obtain ⟨h1, rfl⟩ := h
  have hc := conChk_ok (conOk_chk h1)
  obtain ⟨c1, c2, c3, c4⟩ := hc
  have := conRr_ok ([u8 (flagZ lt)]) (List.replicate (padN ([u8 (flagZ lt)] ++ conF lt x ti ad tm).length) 0) lt x ti ad tm (⟨by omega, by omega⟩) (rfl) (⟨by omega, by omega⟩) (c3) (c4)
  rw [show (([u8 (flagZ lt)]).length : Int) = 1 from rfl] at this
  rw [conB, padB, List.append_assoc]
  exact this
theorem conIs.inj {b : List UInt8} {lt : Bool} {x : List UInt8} {ti : Int} {ad : Int} {tm : Int} {x' : List UInt8} {ti' : Int} {ad' : Int} {tm' : Int} (h : conIs b lt x ti ad tm) (h' : conIs b lt x' ti' ad' tm') : x = x' ∧ ti = ti' ∧ ad = ad' ∧ tm = tm' := by
  have := h.read.symm.trans h'.read
  simp only [Prod.mk.injEq] at this
  obtain ⟨a0, a1, a2, a3, a4, _⟩ := this
  exact ⟨a1, a2, a3, a4⟩
def conZ : AV := .st [.lst 1 [], .raw (.int .i64 0), .raw (.int .i64 0), .raw (.int .i64 0)]
/-- What the decoder answers. -/
def conDec (b : List UInt8) (lt : Bool) (d : AV) : Prop :=
  (∃ x ti ad tm, conIs b lt x ti ad tm ∧ d = .tup [conA lt x ti ad tm, .raw (.int .i64 0)]) ∨
  ((∀ x ti ad tm, ¬ conIs b lt x ti ad tm) ∧ d = .tup [conZ, .raw (.int .i64 100)])
theorem conDec.unique {b : List UInt8} {lt : Bool} {d d' : AV} (h : conDec b lt d) (h' : conDec b lt d') : d = d' := by
  rcases h with ⟨x, ti, ad, tm, h1, rfl⟩ | ⟨h1, rfl⟩
  · rcases h' with ⟨x', ti', ad', tm', h2, rfl⟩ | ⟨h2, rfl⟩
    · obtain ⟨rfl, rfl, rfl, rfl⟩ := h1.inj h2
      rfl
    · exact absurd h1 (h2 _ _ _ _)
  · rcases h' with ⟨x', ti', ad', tm', h2, rfl⟩ | ⟨h2, rfl⟩
    · exact absurd h2 (h1 _ _ _ _)
    · rfl
theorem conDec.of {b : List UInt8} {lt : Bool} {x : List UInt8} {ti : Int} {ad : Int} {tm : Int} {d : AV} (h : conDec b lt d) (h1 : conIs b lt x ti ad tm) : d = .tup [conA lt x ti ad tm, .raw (.int .i64 0)] := h.unique (.inl ⟨_, _, _, _, h1, rfl⟩)
theorem conZ_st {own : Own} : Weak1 own (.st [.raw (.slice none 0 0), .raw (.int .i64 0), .raw (.int .i64 0), .raw (.int .i64 0)]) own conZ := (Weak1.st (Weak.one (pre := []) (post := [.raw (.int .i64 0), .raw (.int .i64 0), .raw (.int .i64 0)]) (Weak1.nil (wd := 1))))
theorem conZ_weak {own : Own} {e : AV} : Weak1 own (.tup [.st [.raw (.slice none 0 0), .raw (.int .i64 0), .raw (.int .i64 0), .raw (.int .i64 0)], e]) own (.tup [conZ, e]) := Weak1.tup (Weak.one (pre := []) conZ_st)
theorem conIs.flag {b : List UInt8} {lt : Bool} {x : List UInt8} {ti : Int} {ad : Int} {tm : Int} (h : conIs b lt x ti ad tm) : b.getD 0 0 = u8 (flagZ lt) ∧ 0 < b.length := by
  obtain ⟨_, rfl⟩ := h
  constructor
  · simp [conB, padB]
  · simp [conB, padB]
theorem conIs.not {b : List UInt8} {lt : Bool} {x : List UInt8} {ti : Int} {ad : Int} {tm : Int} {x' : List UInt8} {ti' : Int} {ad' : Int} {tm' : Int} (h : conIs b lt x ti ad tm) (h' : conIs b (!lt) x' ti' ad' tm') : False := by
  have e := h.flag.1.symm.trans h'.flag.1
  cases lt <;> exact absurd e (by decide)
theorem outside11_pure (n m : Int) : PC Tryz.prog 189 [.raw (.int .i64 n), .raw (.int .i64 m)] (.raw (.bool (decide (n < 0 ∨ n > m)))) := by
  refine PC.of_ac ?_
  refine AC.of_body (M := []) Tryz.func189 rfl (by kernel_rfl) (Nat.le_of_ble_eq_true rfl) ?_; simp only [Tryz.results189, Tryz.ntmps189]
  by_cases h : n < 0
  · simp (dsimp := false) only [go_sem, ↓reduceIte, Nat.reduceEqDiff, Nat.reduceLT, Nat.reduceAdd, Nat.reduceSub, Nat.reduceMul, Nat.reduceLeDiff, reduceCtorEq, Int.reduceNeg, Int.reduceToNat, Int.reduceLT, Int.reduceLE, Int.reduceGE, Int.reduceGT, Int.reduceEq, h]
  · simp (dsimp := false) only [go_sem, ↓reduceIte, Nat.reduceEqDiff, Nat.reduceLT, Nat.reduceAdd, Nat.reduceSub, Nat.reduceMul, Nat.reduceLeDiff, reduceCtorEq, Int.reduceNeg, Int.reduceToNat, Int.reduceLT, Int.reduceLE, Int.reduceGE, Int.reduceGT, Int.reduceEq, h]
theorem within11_pure (n m : Int) : PC Tryz.prog 182 [.raw (.int .i64 n), .raw (.int .i64 m)] (.raw (.bool (decide (n ≥ 0 ∧ n ≤ m)))) := by
  refine PC.of_ac ?_
  refine AC.of_body (M := []) Tryz.func182 rfl (by kernel_rfl) (Nat.le_of_ble_eq_true rfl) ?_; simp only [Tryz.results182, Tryz.ntmps182]
  by_cases h : n ≥ 0
  · simp (dsimp := false) only [go_sem, ↓reduceIte, Nat.reduceEqDiff, Nat.reduceLT, Nat.reduceAdd, Nat.reduceSub, Nat.reduceMul, Nat.reduceLeDiff, reduceCtorEq, Int.reduceNeg, Int.reduceToNat, Int.reduceLT, Int.reduceLE, Int.reduceGE, Int.reduceGT, Int.reduceEq, h]
  · simp (dsimp := false) only [go_sem, ↓reduceIte, Nat.reduceEqDiff, Nat.reduceLT, Nat.reduceAdd, Nat.reduceSub, Nat.reduceMul, Nat.reduceLeDiff, reduceCtorEq, Int.reduceNeg, Int.reduceToNat, Int.reduceLT, Int.reduceLE, Int.reduceGE, Int.reduceGT, Int.reduceEq, h]
set_option maxHeartbeats 8000000 in
theorem conEncode_pure (lt : Bool) (x : List UInt8) (ti ad tm : Int) (zx : x.length ≤ 100000) :
    PC Tryz.prog 180 [conA lt x ti ad tm, .raw (.bool lt)] (conE lt x ti ad tm) := by
  refine PC.post ?_
  obtain ⟨b0, e0⟩ : ∃ b, b = [u8 (flagZ lt)] := ⟨_, rfl⟩
  have l0 : b0.length = 1 := by rw [e0]; rfl
  obtain ⟨b1, e1⟩ : ∃ b, b0 ++ numB (x.length : Int) 2 lt = b := ⟨_, rfl⟩
  have l1 : b1.length = b0.length + 2 := by rw [← e1, List.length_append] <;> first | rfl | simp only [prinB_length, numB_length, textB_length]
  obtain ⟨b2, e2⟩ : ∃ b, b1 ++ x = b := ⟨_, rfl⟩
  have l2 : b2.length = b1.length + x.length := by rw [← e2, List.length_append] <;> first | rfl | simp only [prinB_length, numB_length, textB_length]
  obtain ⟨b3, e3⟩ : ∃ b, b2 ++ [u8 ti] = b := ⟨_, rfl⟩
  have l3 : b3.length = b2.length + 1 := by rw [← e3, List.length_append] <;> first | rfl | simp only [prinB_length, numB_length, textB_length]
  obtain ⟨b4, e4⟩ : ∃ b, b3 ++ numB ad 4 lt = b := ⟨_, rfl⟩
  have l4 : b4.length = b3.length + 4 := by rw [← e4, List.length_append] <;> first | rfl | simp only [prinB_length, numB_length, textB_length]
  obtain ⟨b5, e5⟩ : ∃ b, b4 ++ numB tm 4 lt = b := ⟨_, rfl⟩
  have l5 : b5.length = b4.length + 4 := by rw [← e5, List.length_append] <;> first | rfl | simp only [prinB_length, numB_length, textB_length]
  obtain ⟨b6, e6⟩ : ∃ b, b5 ++ List.replicate (padN b5.length) 0 = b := ⟨_, rfl⟩
  have hfin : conB lt x ti ad tm = b6 := by rw [conB, padB, conF, ← e6, ← e5, ← e4, ← e3, ← e2, ← e1, e0]; simp only [List.append_assoc]
  have p1 := PutShort_pure b0 (x.length : Int) lt (by omega)
  rw [e1] at p1
  have p3 := PutOctet_pure b2 ti (by omega)
  rw [e3] at p3
  have p4 := PutNumber_pure b3 ad lt (by omega)
  rw [e4] at p4
  have p5 := PutNumber_pure b4 tm lt (by omega)
  rw [e5] at p5
  have p6 := Pad_pure b5 (by omega)
  rw [e6] at p6
  have p0 := PutOctet_pure [] (flagZ lt) (by simp)
  rw [List.nil_append, ← e0] at p0
  unfold conA
  refine AC.of_body (M := []) Tryz.func180 rfl (by kernel_rfl) (Nat.le_of_ble_eq_true rfl) ?_; simp only [Tryz.results180, Tryz.ntmps180]
  simp (dsimp := false) only [go_sem, ↓reduceIte, Nat.reduceEqDiff, Nat.reduceLT, Nat.reduceAdd, Nat.reduceSub, Nat.reduceMul, Nat.reduceLeDiff, reduceCtorEq, Int.reduceNeg, Int.reduceToNat, Int.reduceLT, Int.reduceLE, Int.reduceGE, Int.reduceGT, Int.reduceEq]
  by_cases h0_0 : (x.length : Int) > 500
  · simp (dsimp := false) only [go_sem, ↓reduceIte, Nat.reduceEqDiff, Nat.reduceLT, Nat.reduceAdd, Nat.reduceSub, Nat.reduceMul, Nat.reduceLeDiff, reduceCtorEq, Int.reduceNeg, Int.reduceToNat, Int.reduceLT, Int.reduceLE, Int.reduceGE, Int.reduceGT, Int.reduceEq, h0_0]
    have hC : conChk lt x ti ad tm = 105 := by rw [conChk, if_pos (by first | omega | (simp [h0_0]; done))]
    refine ⟨noOwn, ?_⟩
    rw [conE, hC, if_neg (by decide)]
    exact Weak1.nil2
  · simp (dsimp := false) only [go_sem, ↓reduceIte, Nat.reduceEqDiff, Nat.reduceLT, Nat.reduceAdd, Nat.reduceSub, Nat.reduceMul, Nat.reduceLeDiff, reduceCtorEq, Int.reduceNeg, Int.reduceToNat, Int.reduceLT, Int.reduceLE, Int.reduceGE, Int.reduceGT, Int.reduceEq, h0_0]
    refine ACs.pure (outside11_pure ti _) ?_
    by_cases h1_0 : ti < 0 ∨ ti > 199
    · simp (dsimp := false) only [go_sem, ↓reduceIte, Nat.reduceEqDiff, Nat.reduceLT, Nat.reduceAdd, Nat.reduceSub, Nat.reduceMul, Nat.reduceLeDiff, reduceCtorEq, Int.reduceNeg, Int.reduceToNat, Int.reduceLT, Int.reduceLE, Int.reduceGE, Int.reduceGT, Int.reduceEq, h1_0]
      have hC : conChk lt x ti ad tm = 104 := by rw [conChk, if_neg (by omega), if_pos (by omega)]
      refine ⟨noOwn, ?_⟩
      rw [conE, hC, if_neg (by decide)]
      exact Weak1.nil2
    · simp (dsimp := false) only [go_sem, ↓reduceIte, Nat.reduceEqDiff, Nat.reduceLT, Nat.reduceAdd, Nat.reduceSub, Nat.reduceMul, Nat.reduceLeDiff, reduceCtorEq, Int.reduceNeg, Int.reduceToNat, Int.reduceLT, Int.reduceLE, Int.reduceGE, Int.reduceGT, Int.reduceEq, h1_0]
      refine ACs.pure (outside11_pure ad _) ?_
      by_cases h1_1 : ad < 0 ∨ ad > 4294967295
      · simp (dsimp := false) only [go_sem, ↓reduceIte, Nat.reduceEqDiff, Nat.reduceLT, Nat.reduceAdd, Nat.reduceSub, Nat.reduceMul, Nat.reduceLeDiff, reduceCtorEq, Int.reduceNeg, Int.reduceToNat, Int.reduceLT, Int.reduceLE, Int.reduceGE, Int.reduceGT, Int.reduceEq, h1_1]
        have hC : conChk lt x ti ad tm = 104 := by rw [conChk, if_neg (by omega), if_pos (by omega)]
        refine ⟨noOwn, ?_⟩
        rw [conE, hC, if_neg (by decide)]
        exact Weak1.nil2
      · simp (dsimp := false) only [go_sem, ↓reduceIte, Nat.reduceEqDiff, Nat.reduceLT, Nat.reduceAdd, Nat.reduceSub, Nat.reduceMul, Nat.reduceLeDiff, reduceCtorEq, Int.reduceNeg, Int.reduceToNat, Int.reduceLT, Int.reduceLE, Int.reduceGE, Int.reduceGT, Int.reduceEq, h1_1]
        refine ACs.pure (outside11_pure tm _) ?_
        by_cases h1_2 : tm < 0 ∨ tm > 4294967295
        · simp (dsimp := false) only [go_sem, ↓reduceIte, Nat.reduceEqDiff, Nat.reduceLT, Nat.reduceAdd, Nat.reduceSub, Nat.reduceMul, Nat.reduceLeDiff, reduceCtorEq, Int.reduceNeg, Int.reduceToNat, Int.reduceLT, Int.reduceLE, Int.reduceGE, Int.reduceGT, Int.reduceEq, h1_2]
          have hC : conChk lt x ti ad tm = 104 := by rw [conChk, if_neg (by omega), if_pos (by omega)]
          refine ⟨noOwn, ?_⟩
          rw [conE, hC, if_neg (by decide)]
          exact Weak1.nil2
        · simp (dsimp := false) only [go_sem, ↓reduceIte, Nat.reduceEqDiff, Nat.reduceLT, Nat.reduceAdd, Nat.reduceSub, Nat.reduceMul, Nat.reduceLeDiff, reduceCtorEq, Int.reduceNeg, Int.reduceToNat, Int.reduceLT, Int.reduceLE, Int.reduceGE, Int.reduceGT, Int.reduceEq, h1_2]
          have hC : conChk lt x ti ad tm = 0 := by rw [conChk, if_neg (by omega), if_neg (by omega)]
          (try refine AW.draw (M := []) [.v, .e, .e, .v, .v, .v, .v, .e, .v] mixed (by kernel_rfl) ?_)
          (try simp (dsimp := false) only [go_sem, ↓reduceIte, Nat.reduceEqDiff, Nat.reduceLT, Nat.reduceAdd, Nat.reduceSub, Nat.reduceMul, Nat.reduceLeDiff, reduceCtorEq, Int.reduceNeg, Int.reduceToNat, Int.reduceLT, Int.reduceLE, Int.reduceGE, Int.reduceGT, Int.reduceEq])
          refine ACs.pure (Flag_pure lt) ?_
          (try simp (dsimp := false) only [go_sem, ↓reduceIte, Nat.reduceEqDiff, Nat.reduceLT, Nat.reduceAdd, Nat.reduceSub, Nat.reduceMul, Nat.reduceLeDiff, reduceCtorEq, Int.reduceNeg, Int.reduceToNat, Int.reduceLT, Int.reduceLE, Int.reduceGE, Int.reduceGT, Int.reduceEq])
          refine ACs.arg (pre := []) (Weak1.nil (wd := 1)) ?_
          refine ACs.pure p0 ?_
          (try simp (dsimp := false) only [go_sem, ↓reduceIte, Nat.reduceEqDiff, Nat.reduceLT, Nat.reduceAdd, Nat.reduceSub, Nat.reduceMul, Nat.reduceLeDiff, reduceCtorEq, Int.reduceNeg, Int.reduceToNat, Int.reduceLT, Int.reduceLE, Int.reduceGE, Int.reduceGT, Int.reduceEq])
          refine ACs.of (PutShort_own b0 (x.length : Int) lt (by omega) _ _ ⟨fun h0 => absurd h0 (by rw [e1]; omega), fun k1 c1 hk1 hc1 => ?_⟩)
          rw [e1] at hc1
          simp only [e1]
          (try simp (dsimp := false) only [go_sem, ↓reduceIte, Nat.reduceEqDiff, Nat.reduceLT, Nat.reduceAdd, Nat.reduceSub, Nat.reduceMul, Nat.reduceLeDiff, reduceCtorEq, Int.reduceNeg, Int.reduceToNat, Int.reduceLT, Int.reduceLE, Int.reduceGE, Int.reduceGT, Int.reduceEq])
          have hcs : b1.map byteA ++ x.map byteA = b2.map byteA := by rw [← e2, List.map_append]
          simp (dsimp := false) only [go_sem, ↓reduceIte, Nat.reduceEqDiff, Nat.reduceLT, Nat.reduceAdd, Nat.reduceSub, Nat.reduceMul, Nat.reduceLeDiff, reduceCtorEq, Int.reduceNeg, Int.reduceToNat, Int.reduceLT, Int.reduceLE, Int.reduceGE, Int.reduceGT, Int.reduceEq, flat_byte, hcs]
          refine ⟨okA_bytes x, by omega, by omega, fun k2 c2 hk2 hc2 => ?_⟩
          have hmv := fun o o' => Own.set_move hk1 k2 o o'
          have hk2 := Own.set_none hk1 hk2
          simp (dsimp := false) only [go_sem, ↓reduceIte, Nat.reduceEqDiff, Nat.reduceLT, Nat.reduceAdd, Nat.reduceSub, Nat.reduceMul, Nat.reduceLeDiff, reduceCtorEq, Int.reduceNeg, Int.reduceToNat, Int.reduceLT, Int.reduceLE, Int.reduceGE, Int.reduceGT, Int.reduceEq, hmv]
          (try refine AW.draw (M := []) [.v, .v, .v, .e, .v, .v, .v, .e, .v] mixed (by kernel_rfl) ?_)
          (try simp (dsimp := false) only [go_sem, ↓reduceIte, Nat.reduceEqDiff, Nat.reduceLT, Nat.reduceAdd, Nat.reduceSub, Nat.reduceMul, Nat.reduceLeDiff, reduceCtorEq, Int.reduceNeg, Int.reduceToNat, Int.reduceLT, Int.reduceLE, Int.reduceGE, Int.reduceGT, Int.reduceEq])
          refine ACs.arg (pre := []) (rowW _ k2 c2 c2 _ b2 [] (by rw [List.append_nil]; exact Own.set_same _ _ _) (by omega) (by omega) (by omega)) ?_
          refine ACs.pure p3 ?_
          (try simp (dsimp := false) only [go_sem, ↓reduceIte, Nat.reduceEqDiff, Nat.reduceLT, Nat.reduceAdd, Nat.reduceSub, Nat.reduceMul, Nat.reduceLeDiff, reduceCtorEq, Int.reduceNeg, Int.reduceToNat, Int.reduceLT, Int.reduceLE, Int.reduceGE, Int.reduceGT, Int.reduceEq])
          refine ACs.pure p4 ?_
          (try simp (dsimp := false) only [go_sem, ↓reduceIte, Nat.reduceEqDiff, Nat.reduceLT, Nat.reduceAdd, Nat.reduceSub, Nat.reduceMul, Nat.reduceLeDiff, reduceCtorEq, Int.reduceNeg, Int.reduceToNat, Int.reduceLT, Int.reduceLE, Int.reduceGE, Int.reduceGT, Int.reduceEq])
          refine ACs.pure p5 ?_
          (try simp (dsimp := false) only [go_sem, ↓reduceIte, Nat.reduceEqDiff, Nat.reduceLT, Nat.reduceAdd, Nat.reduceSub, Nat.reduceMul, Nat.reduceLeDiff, reduceCtorEq, Int.reduceNeg, Int.reduceToNat, Int.reduceLT, Int.reduceLE, Int.reduceGE, Int.reduceGT, Int.reduceEq])
          refine ACs.pure p6 ?_
          (try simp (dsimp := false) only [go_sem, ↓reduceIte, Nat.reduceEqDiff, Nat.reduceLT, Nat.reduceAdd, Nat.reduceSub, Nat.reduceMul, Nat.reduceLeDiff, reduceCtorEq, Int.reduceNeg, Int.reduceToNat, Int.reduceLT, Int.reduceLE, Int.reduceGE, Int.reduceGT, Int.reduceEq])
          rw [conE, hC, if_pos rfl, hfin]
          exact ⟨_, Weak1.refl _ _⟩
set_option maxHeartbeats 8000000 in
theorem rconEncode_pure (lt : Bool) (x : List UInt8) (ti ad tm : Int) (zx : x.length ≤ 100000) :
    PC Tryz.prog 162 [conA lt x ti ad tm, .raw (.bool lt)] (conE lt x ti ad tm) := by
  refine PC.post ?_
  obtain ⟨b0, e0⟩ : ∃ b, b = [u8 (flagZ lt)] := ⟨_, rfl⟩
  have l0 : b0.length = 1 := by rw [e0]; rfl
  obtain ⟨b1, e1⟩ : ∃ b, b0 ++ numB (x.length : Int) 2 lt = b := ⟨_, rfl⟩
  have l1 : b1.length = b0.length + 2 := by rw [← e1, List.length_append] <;> first | rfl | simp only [prinB_length, numB_length, textB_length]
  obtain ⟨b2, e2⟩ : ∃ b, b1 ++ x = b := ⟨_, rfl⟩
  have l2 : b2.length = b1.length + x.length := by rw [← e2, List.length_append] <;> first | rfl | simp only [prinB_length, numB_length, textB_length]
  obtain ⟨b3, e3⟩ : ∃ b, b2 ++ [u8 ti] = b := ⟨_, rfl⟩
  have l3 : b3.length = b2.length + 1 := by rw [← e3, List.length_append] <;> first | rfl | simp only [prinB_length, numB_length, textB_length]
  obtain ⟨b4, e4⟩ : ∃ b, b3 ++ numB ad 4 lt = b := ⟨_, rfl⟩
  have l4 : b4.length = b3.length + 4 := by rw [← e4, List.length_append] <;> first | rfl | simp only [prinB_length, numB_length, textB_length]
  obtain ⟨b5, e5⟩ : ∃ b, b4 ++ numB tm 4 lt = b := ⟨_, rfl⟩
  have l5 : b5.length = b4.length + 4 := by rw [← e5, List.length_append] <;> first | rfl | simp only [prinB_length, numB_length, textB_length]
  obtain ⟨b6, e6⟩ : ∃ b, b5 ++ List.replicate (padN b5.length) 0 = b := ⟨_, rfl⟩
  have hfin : conB lt x ti ad tm = b6 := by rw [conB, padB, conF, ← e6, ← e5, ← e4, ← e3, ← e2, ← e1, e0]; simp only [List.append_assoc]
  have p1 := rPutShort_pure b0 (x.length : Int) lt (by omega)
  rw [e1] at p1
  have p3 := rPutOctet_pure b2 ti (by omega)
  rw [e3] at p3
  have p4 := rPutNumber_pure b3 ad lt (by omega)
  rw [e4] at p4
  have p5 := rPutNumber_pure b4 tm lt (by omega)
  rw [e5] at p5
  have p6 := rPad_pure b5 (by omega)
  rw [e6] at p6
  have p0 := rPutOrder_pure [] lt (by simp)
  rw [List.nil_append, ← e0] at p0
  unfold conA
  refine AC.of_body (M := []) Tryz.func162 rfl (by kernel_rfl) (Nat.le_of_ble_eq_true rfl) ?_; simp only [Tryz.results162, Tryz.ntmps162]
  simp (dsimp := false) only [go_sem, ↓reduceIte, Nat.reduceEqDiff, Nat.reduceLT, Nat.reduceAdd, Nat.reduceSub, Nat.reduceMul, Nat.reduceLeDiff, reduceCtorEq, Int.reduceNeg, Int.reduceToNat, Int.reduceLT, Int.reduceLE, Int.reduceGE, Int.reduceGT, Int.reduceEq]
  by_cases h0_0 : (x.length : Int) > 500
  · simp (dsimp := false) only [go_sem, ↓reduceIte, Nat.reduceEqDiff, Nat.reduceLT, Nat.reduceAdd, Nat.reduceSub, Nat.reduceMul, Nat.reduceLeDiff, reduceCtorEq, Int.reduceNeg, Int.reduceToNat, Int.reduceLT, Int.reduceLE, Int.reduceGE, Int.reduceGT, Int.reduceEq, h0_0]
    have hC : conChk lt x ti ad tm = 105 := by rw [conChk, if_pos (by first | omega | (simp [h0_0]; done))]
    refine ⟨noOwn, ?_⟩
    rw [conE, hC, if_neg (by decide)]
    exact Weak1.nil2
  · simp (dsimp := false) only [go_sem, ↓reduceIte, Nat.reduceEqDiff, Nat.reduceLT, Nat.reduceAdd, Nat.reduceSub, Nat.reduceMul, Nat.reduceLeDiff, reduceCtorEq, Int.reduceNeg, Int.reduceToNat, Int.reduceLT, Int.reduceLE, Int.reduceGE, Int.reduceGT, Int.reduceEq, h0_0]
    refine ACs.pure (within11_pure ti _) ?_
    by_cases h1_0 : ti ≥ 0 ∧ ti ≤ 199
    rotate_left
    · simp (dsimp := false) only [go_sem, ↓reduceIte, Nat.reduceEqDiff, Nat.reduceLT, Nat.reduceAdd, Nat.reduceSub, Nat.reduceMul, Nat.reduceLeDiff, reduceCtorEq, Int.reduceNeg, Int.reduceToNat, Int.reduceLT, Int.reduceLE, Int.reduceGE, Int.reduceGT, Int.reduceEq, h1_0]
      have hC : conChk lt x ti ad tm = 104 := by rw [conChk, if_neg (by omega), if_pos (by omega)]
      refine ⟨noOwn, ?_⟩
      rw [conE, hC, if_neg (by decide)]
      exact Weak1.nil2
    · simp (dsimp := false) only [go_sem, ↓reduceIte, Nat.reduceEqDiff, Nat.reduceLT, Nat.reduceAdd, Nat.reduceSub, Nat.reduceMul, Nat.reduceLeDiff, reduceCtorEq, Int.reduceNeg, Int.reduceToNat, Int.reduceLT, Int.reduceLE, Int.reduceGE, Int.reduceGT, Int.reduceEq, h1_0]
      refine ACs.pure (within11_pure ad _) ?_
      by_cases h1_1 : ad ≥ 0 ∧ ad ≤ 4294967295
      rotate_left
      · simp (dsimp := false) only [go_sem, ↓reduceIte, Nat.reduceEqDiff, Nat.reduceLT, Nat.reduceAdd, Nat.reduceSub, Nat.reduceMul, Nat.reduceLeDiff, reduceCtorEq, Int.reduceNeg, Int.reduceToNat, Int.reduceLT, Int.reduceLE, Int.reduceGE, Int.reduceGT, Int.reduceEq, h1_1]
        have hC : conChk lt x ti ad tm = 104 := by rw [conChk, if_neg (by omega), if_pos (by omega)]
        refine ⟨noOwn, ?_⟩
        rw [conE, hC, if_neg (by decide)]
        exact Weak1.nil2
      · simp (dsimp := false) only [go_sem, ↓reduceIte, Nat.reduceEqDiff, Nat.reduceLT, Nat.reduceAdd, Nat.reduceSub, Nat.reduceMul, Nat.reduceLeDiff, reduceCtorEq, Int.reduceNeg, Int.reduceToNat, Int.reduceLT, Int.reduceLE, Int.reduceGE, Int.reduceGT, Int.reduceEq, h1_1]
        refine ACs.pure (within11_pure tm _) ?_
        by_cases h1_2 : tm ≥ 0 ∧ tm ≤ 4294967295
        rotate_left
        · simp (dsimp := false) only [go_sem, ↓reduceIte, Nat.reduceEqDiff, Nat.reduceLT, Nat.reduceAdd, Nat.reduceSub, Nat.reduceMul, Nat.reduceLeDiff, reduceCtorEq, Int.reduceNeg, Int.reduceToNat, Int.reduceLT, Int.reduceLE, Int.reduceGE, Int.reduceGT, Int.reduceEq, h1_2]
          have hC : conChk lt x ti ad tm = 104 := by rw [conChk, if_neg (by omega), if_pos (by omega)]
          refine ⟨noOwn, ?_⟩
          rw [conE, hC, if_neg (by decide)]
          exact Weak1.nil2
        · simp (dsimp := false) only [go_sem, ↓reduceIte, Nat.reduceEqDiff, Nat.reduceLT, Nat.reduceAdd, Nat.reduceSub, Nat.reduceMul, Nat.reduceLeDiff, reduceCtorEq, Int.reduceNeg, Int.reduceToNat, Int.reduceLT, Int.reduceLE, Int.reduceGE, Int.reduceGT, Int.reduceEq, h1_2]
          have hC : conChk lt x ti ad tm = 0 := by rw [conChk, if_neg (by omega), if_neg (by omega)]
          (try refine AW.draw (M := []) [.v, .e, .v, .v, .v, .v, .e, .v] mixed (by kernel_rfl) ?_)
          (try simp (dsimp := false) only [go_sem, ↓reduceIte, Nat.reduceEqDiff, Nat.reduceLT, Nat.reduceAdd, Nat.reduceSub, Nat.reduceMul, Nat.reduceLeDiff, reduceCtorEq, Int.reduceNeg, Int.reduceToNat, Int.reduceLT, Int.reduceLE, Int.reduceGE, Int.reduceGT, Int.reduceEq])
          refine ACs.arg (pre := []) (Weak1.nil (wd := 1)) ?_
          refine ACs.pure p0 ?_
          (try simp (dsimp := false) only [go_sem, ↓reduceIte, Nat.reduceEqDiff, Nat.reduceLT, Nat.reduceAdd, Nat.reduceSub, Nat.reduceMul, Nat.reduceLeDiff, reduceCtorEq, Int.reduceNeg, Int.reduceToNat, Int.reduceLT, Int.reduceLE, Int.reduceGE, Int.reduceGT, Int.reduceEq])
          refine ACs.of (rPutShort_own b0 (x.length : Int) lt (by omega) _ _ ⟨fun h0 => absurd h0 (by rw [e1]; omega), fun k1 c1 hk1 hc1 => ?_⟩)
          rw [e1] at hc1
          simp only [e1]
          (try simp (dsimp := false) only [go_sem, ↓reduceIte, Nat.reduceEqDiff, Nat.reduceLT, Nat.reduceAdd, Nat.reduceSub, Nat.reduceMul, Nat.reduceLeDiff, reduceCtorEq, Int.reduceNeg, Int.reduceToNat, Int.reduceLT, Int.reduceLE, Int.reduceGE, Int.reduceGT, Int.reduceEq])
          have hcs : b1.map byteA ++ x.map byteA = b2.map byteA := by rw [← e2, List.map_append]
          simp (dsimp := false) only [go_sem, ↓reduceIte, Nat.reduceEqDiff, Nat.reduceLT, Nat.reduceAdd, Nat.reduceSub, Nat.reduceMul, Nat.reduceLeDiff, reduceCtorEq, Int.reduceNeg, Int.reduceToNat, Int.reduceLT, Int.reduceLE, Int.reduceGE, Int.reduceGT, Int.reduceEq, flat_byte, hcs]
          refine ⟨okA_bytes x, by omega, by omega, fun k2 c2 hk2 hc2 => ?_⟩
          have hmv := fun o o' => Own.set_move hk1 k2 o o'
          have hk2 := Own.set_none hk1 hk2
          simp (dsimp := false) only [go_sem, ↓reduceIte, Nat.reduceEqDiff, Nat.reduceLT, Nat.reduceAdd, Nat.reduceSub, Nat.reduceMul, Nat.reduceLeDiff, reduceCtorEq, Int.reduceNeg, Int.reduceToNat, Int.reduceLT, Int.reduceLE, Int.reduceGE, Int.reduceGT, Int.reduceEq, hmv]
          (try refine AW.draw (M := []) [.v, .v, .v, .e, .v, .v, .v, .e, .v] mixed (by kernel_rfl) ?_)
          (try simp (dsimp := false) only [go_sem, ↓reduceIte, Nat.reduceEqDiff, Nat.reduceLT, Nat.reduceAdd, Nat.reduceSub, Nat.reduceMul, Nat.reduceLeDiff, reduceCtorEq, Int.reduceNeg, Int.reduceToNat, Int.reduceLT, Int.reduceLE, Int.reduceGE, Int.reduceGT, Int.reduceEq])
          refine ACs.arg (pre := []) (rowW _ k2 c2 c2 _ b2 [] (by rw [List.append_nil]; exact Own.set_same _ _ _) (by omega) (by omega) (by omega)) ?_
          refine ACs.pure p3 ?_
          (try simp (dsimp := false) only [go_sem, ↓reduceIte, Nat.reduceEqDiff, Nat.reduceLT, Nat.reduceAdd, Nat.reduceSub, Nat.reduceMul, Nat.reduceLeDiff, reduceCtorEq, Int.reduceNeg, Int.reduceToNat, Int.reduceLT, Int.reduceLE, Int.reduceGE, Int.reduceGT, Int.reduceEq])
          refine ACs.pure p4 ?_
          (try simp (dsimp := false) only [go_sem, ↓reduceIte, Nat.reduceEqDiff, Nat.reduceLT, Nat.reduceAdd, Nat.reduceSub, Nat.reduceMul, Nat.reduceLeDiff, reduceCtorEq, Int.reduceNeg, Int.reduceToNat, Int.reduceLT, Int.reduceLE, Int.reduceGE, Int.reduceGT, Int.reduceEq])
          refine ACs.pure p5 ?_
          (try simp (dsimp := false) only [go_sem, ↓reduceIte, Nat.reduceEqDiff, Nat.reduceLT, Nat.reduceAdd, Nat.reduceSub, Nat.reduceMul, Nat.reduceLeDiff, reduceCtorEq, Int.reduceNeg, Int.reduceToNat, Int.reduceLT, Int.reduceLE, Int.reduceGE, Int.reduceGT, Int.reduceEq])
          refine ACs.pure p6 ?_
          (try simp (dsimp := false) only [go_sem, ↓reduceIte, Nat.reduceEqDiff, Nat.reduceLT, Nat.reduceAdd, Nat.reduceSub, Nat.reduceMul, Nat.reduceLeDiff, reduceCtorEq, Int.reduceNeg, Int.reduceToNat, Int.reduceLT, Int.reduceLE, Int.reduceGE, Int.reduceGT, Int.reduceEq])
          rw [conE, hC, if_pos rfl, hfin]
          exact ⟨_, Weak1.refl _ _⟩
set_option maxHeartbeats 8000000 in
theorem conDecode_pn (b : List UInt8) (lt : Bool) (hn : b.length ≤ 140737488355000) : PN Tryz.prog 165 [.lst 1 (b.map byteA), .raw (.bool lt)] (conDec b lt) := by
  refine PN.post ?_
  obtain ⟨x0, ex⟩ : ∃ x, cNum b 1 false (0, false) = x := ⟨_, rfl⟩
  have hx : 0 < b.length → x0.2 = (1, false) := fun hp => by
    cases b with
    | nil => simp at hp
    | cons c rest =>
      have := cNum_one [] rest c
      rw [show ([] : List UInt8) ++ (c :: rest) = c :: rest from rfl, show (([] : List UInt8).length : Int) = 0 from rfl, ex] at this
      rw [this]
      rfl
  have hrd : ∀ {x : List UInt8} {ti : Int} {ad : Int} {tm : Int}, conIs b lt x ti ad tm → conR b lt x0.2 = ((x.length : Int), x, ti, ad, tm, false) := fun h => by
    rw [hx h.flag.2]
    exact h.read
  have o0 : 0 ≤ x0.2.1 ∧ x0.2.1 ≤ b.length := by rw [← ex]; exact cNum_ok (Int.le_refl _) (by simp)
  obtain ⟨x1, e1⟩ : ∃ x, cNum b 2 lt x0.2 = x := ⟨_, rfl⟩
  have o1 : 0 ≤ x1.2.1 ∧ x1.2.1 ≤ b.length := by rw [← e1]; exact cNum_ok o0.1 o0.2
  obtain ⟨x2, e2⟩ : ∃ x, cByt b x1.1 x1.2 = x := ⟨_, rfl⟩
  have hp2 : 0 ≤ x1.1 := by rw [← e1]; exact cNum_nn _ _ _ _
  have hq2 : x1.1 ≤ 65535 := by rw [← e1]; exact cNum_le _ _ _ _ (by decide)
  have o2 : 0 ≤ x2.2.1 ∧ x2.2.1 ≤ b.length := by rw [← e2]; exact cByt_ok o1.1 o1.2 hp2
  have zl2 : x2.1.length ≤ 65535 := by rw [← e2]; exact cByt_le _ _ _ () (by omega)
  obtain ⟨x3, e3⟩ : ∃ x, cNum b 1 false x2.2 = x := ⟨_, rfl⟩
  have o3 : 0 ≤ x3.2.1 ∧ x3.2.1 ≤ b.length := by rw [← e3]; exact cNum_ok o2.1 o2.2
  obtain ⟨x4, e4⟩ : ∃ x, cNum b 4 lt x3.2 = x := ⟨_, rfl⟩
  have o4 : 0 ≤ x4.2.1 ∧ x4.2.1 ≤ b.length := by rw [← e4]; exact cNum_ok o3.1 o3.2
  obtain ⟨x5, e5⟩ : ∃ x, cNum b 4 lt x4.2 = x := ⟨_, rfl⟩
  have o5 : 0 ≤ x5.2.1 ∧ x5.2.1 ≤ b.length := by rw [← e5]; exact cNum_ok o4.1 o4.2
  have hR : conR b lt x0.2 = (x1.1, x2.1, x3.1, x4.1, x5.1, x5.2.2) := by simp only [conR, e1, e2, e3, e4, e5]
  have hE := conEncode_pure lt x2.1 x3.1 x4.1 x5.1 (by omega) 
  unfold conA conE at hE
  have key : ∀ x' ti' ad' tm', conIs b lt x' ti' ad' tm' → x' = x2.1 ∧ ti' = x3.1 ∧ ad' = x4.1 ∧ tm' = x5.1 ∧ x5.2.2 = false := fun x' ti' ad' tm' h => by
    have := (hrd h).symm.trans hR
    simp only [Prod.mk.injEq] at this
    obtain ⟨a0, a1, a2, a3, a4, j⟩ := this
    exact ⟨a1, a2, a3, a4, j.symm⟩
  refine AC.of_body (M := []) Tryz.func165 rfl (by kernel_rfl) (Nat.le_of_ble_eq_true rfl) ?_; simp only [Tryz.results165, Tryz.ntmps165]
  simp (dsimp := false) only [go_sem, ↓reduceIte, Nat.reduceEqDiff, Nat.reduceLT, Nat.reduceAdd, Nat.reduceSub, Nat.reduceMul, Nat.reduceLeDiff, reduceCtorEq, Int.reduceNeg, Int.reduceToNat, Int.reduceLT, Int.reduceLE, Int.reduceGE, Int.reduceGT, Int.reduceEq]
  intro k1 hk1
  refine ACs.of (CNew_own b 0 lt _ _ fun k hk => ?_)
  have n1 := none_ne hk
  have a1 : ∀ (own : Own) o, (own.set k1 o) k = own k := fun own o => Own.set_ne _ _ n1
  have a2 : ∀ (own : Own) o, (own.set k o) k1 = own k1 := fun own o => Own.set_ne _ _ (Ne.symm n1)
  simp (dsimp := false) only [go_sem, ↓reduceIte, Nat.reduceEqDiff, Nat.reduceLT, Nat.reduceAdd, Nat.reduceSub, Nat.reduceMul, Nat.reduceLeDiff, reduceCtorEq, Int.reduceNeg, Int.reduceToNat, Int.reduceLT, Int.reduceLE, Int.reduceGE, Int.reduceGT, Int.reduceEq, a1, a2]
  refine ACs.of (COctet_own b lt (0, false) k _ _ (Own.set_same _ _ _) (Int.le_refl _) (by simp) hn ?_)
  simp (dsimp := false) only [go_sem, ↓reduceIte, Nat.reduceEqDiff, Nat.reduceLT, Nat.reduceAdd, Nat.reduceSub, Nat.reduceMul, Nat.reduceLeDiff, reduceCtorEq, Int.reduceNeg, Int.reduceToNat, Int.reduceLT, Int.reduceLE, Int.reduceGE, Int.reduceGT, Int.reduceEq, ex, a1, a2]
  refine ACs.of (CShort_own b lt x0.2 k _ _ (by simp only [a1, a2, Own.set_same]) o0.1 o0.2 hn ?_)
  simp (dsimp := false) only [go_sem, ↓reduceIte, Nat.reduceEqDiff, Nat.reduceLT, Nat.reduceAdd, Nat.reduceSub, Nat.reduceMul, Nat.reduceLeDiff, reduceCtorEq, Int.reduceNeg, Int.reduceToNat, Int.reduceLT, Int.reduceLE, Int.reduceGE, Int.reduceGT, Int.reduceEq, e1, a1, a2]
  refine ACs.of (CBytes_own b x1.1 lt x1.2 k _ _ (by simp only [a1, a2, Own.set_same]) o1.1 o1.2 hp2 (by omega) hn ?_)
  simp (dsimp := false) only [go_sem, ↓reduceIte, Nat.reduceEqDiff, Nat.reduceLT, Nat.reduceAdd, Nat.reduceSub, Nat.reduceMul, Nat.reduceLeDiff, reduceCtorEq, Int.reduceNeg, Int.reduceToNat, Int.reduceLT, Int.reduceLE, Int.reduceGE, Int.reduceGT, Int.reduceEq, e2, a1, a2]
  intro k2 hk2
  have n2 := none_ne hk2
  have hk2' := hk2
  rw [Own.set_ne _ _ n2] at hk2'
  have n12 := none_ne hk2'
  have b1 : ∀ (own : Own) o, (own.set k2 o) k = own k := fun own o => Own.set_ne _ _ (Ne.symm n2)
  have b2 : ∀ (own : Own) o, (own.set k o) k2 = own k2 := fun own o => Own.set_ne _ _ n2
  have b3 : ∀ (own : Own) o, (own.set k2 o) k1 = own k1 := fun own o => Own.set_ne _ _ (Ne.symm n12)
  have b4 : ∀ (own : Own) o, (own.set k1 o) k2 = own k2 := fun own o => Own.set_ne _ _ n12
  clear hk2 hk2' hk hk1
  refine ACs.of (COctet_own b lt x2.2 k _ _ (by simp only [a1, a2, b1, b2, b3, b4, Own.set_same]) o2.1 o2.2 hn ?_)
  simp (dsimp := false) only [go_sem, ↓reduceIte, Nat.reduceEqDiff, Nat.reduceLT, Nat.reduceAdd, Nat.reduceSub, Nat.reduceMul, Nat.reduceLeDiff, reduceCtorEq, Int.reduceNeg, Int.reduceToNat, Int.reduceLT, Int.reduceLE, Int.reduceGE, Int.reduceGT, Int.reduceEq, e3, a1, a2, b1, b2, b3, b4]
  refine ACs.of (CNumber_own b lt x3.2 k _ _ (by simp only [a1, a2, b1, b2, b3, b4, Own.set_same]) o3.1 o3.2 hn ?_)
  simp (dsimp := false) only [go_sem, ↓reduceIte, Nat.reduceEqDiff, Nat.reduceLT, Nat.reduceAdd, Nat.reduceSub, Nat.reduceMul, Nat.reduceLeDiff, reduceCtorEq, Int.reduceNeg, Int.reduceToNat, Int.reduceLT, Int.reduceLE, Int.reduceGE, Int.reduceGT, Int.reduceEq, e4, a1, a2, b1, b2, b3, b4]
  refine ACs.of (CNumber_own b lt x4.2 k _ _ (by simp only [a1, a2, b1, b2, b3, b4, Own.set_same]) o4.1 o4.2 hn ?_)
  simp (dsimp := false) only [go_sem, ↓reduceIte, Nat.reduceEqDiff, Nat.reduceLT, Nat.reduceAdd, Nat.reduceSub, Nat.reduceMul, Nat.reduceLeDiff, reduceCtorEq, Int.reduceNeg, Int.reduceToNat, Int.reduceLT, Int.reduceLE, Int.reduceGE, Int.reduceGT, Int.reduceEq, e5, a1, a2, b1, b2, b3, b4]
  refine ACs.pure hE ?_
  simp (dsimp := false) only [go_sem, ↓reduceIte, Nat.reduceEqDiff, Nat.reduceLT, Nat.reduceAdd, Nat.reduceSub, Nat.reduceMul, Nat.reduceLeDiff, reduceCtorEq, Int.reduceNeg, Int.reduceToNat, Int.reduceLT, Int.reduceLE, Int.reduceGE, Int.reduceGT, Int.reduceEq, a1, a2, b1, b2, b3, b4]
  refine ACs.of (CBad_own b lt x5.2 k _ _ (by simp only [a1, a2, b1, b2, b3, b4, Own.set_same]) ?_)
  rcases Bool.eq_false_or_eq_true x5.2.2 with hb | hb
  · simp (dsimp := false) only [go_sem, ↓reduceIte, Nat.reduceEqDiff, Nat.reduceLT, Nat.reduceAdd, Nat.reduceSub, Nat.reduceMul, Nat.reduceLeDiff, reduceCtorEq, Int.reduceNeg, Int.reduceToNat, Int.reduceLT, Int.reduceLE, Int.reduceGE, Int.reduceGT, Int.reduceEq, hb, a1, a2, b1, b2, b3, b4]
    refine ⟨.tup [conZ, .raw (.int .i64 100)], _, conZ_weak, .inr ⟨fun x' ti' ad' tm' h => ?_, rfl⟩⟩
    rw [(key _ _ _ _ h).2.2.2.2] at hb
    cases hb
  by_cases hc : conChk lt x2.1 x3.1 x4.1 x5.1 = 0
  · simp (dsimp := false) only [go_sem, ↓reduceIte, Nat.reduceEqDiff, Nat.reduceLT, Nat.reduceAdd, Nat.reduceSub, Nat.reduceMul, Nat.reduceLeDiff, reduceCtorEq, Int.reduceNeg, Int.reduceToNat, Int.reduceLT, Int.reduceLE, Int.reduceGE, Int.reduceGT, Int.reduceEq, hb, hc, a1, a2, b1, b2, b3, b4]
    refine ACs.pure (Equal_pure _ b) ?_
    by_cases hq : conB lt x2.1 x3.1 x4.1 x5.1 = b
    · simp (dsimp := false) only [go_sem, ↓reduceIte, Nat.reduceEqDiff, Nat.reduceLT, Nat.reduceAdd, Nat.reduceSub, Nat.reduceMul, Nat.reduceLeDiff, reduceCtorEq, Int.reduceNeg, Int.reduceToNat, Int.reduceLT, Int.reduceLE, Int.reduceGE, Int.reduceGT, Int.reduceEq, hq, a1, a2, b1, b2, b3, b4]
      exact ⟨_, _, Weak1.refl _ _, .inl ⟨_, _, _, _, ⟨hc, hq⟩, rfl⟩⟩
    · simp (dsimp := false) only [go_sem, ↓reduceIte, Nat.reduceEqDiff, Nat.reduceLT, Nat.reduceAdd, Nat.reduceSub, Nat.reduceMul, Nat.reduceLeDiff, reduceCtorEq, Int.reduceNeg, Int.reduceToNat, Int.reduceLT, Int.reduceLE, Int.reduceGE, Int.reduceGT, Int.reduceEq, hq, a1, a2, b1, b2, b3, b4]
      refine ⟨.tup [conZ, .raw (.int .i64 100)], _, conZ_weak, .inr ⟨fun x' ti' ad' tm' h => ?_, rfl⟩⟩
      obtain ⟨rfl, rfl, rfl, rfl, _⟩ := key _ _ _ _ h
      exact hq h.2
  · simp (dsimp := false) only [go_sem, ↓reduceIte, Nat.reduceEqDiff, Nat.reduceLT, Nat.reduceAdd, Nat.reduceSub, Nat.reduceMul, Nat.reduceLeDiff, reduceCtorEq, Int.reduceNeg, Int.reduceToNat, Int.reduceLT, Int.reduceLE, Int.reduceGE, Int.reduceGT, Int.reduceEq, hb, hc, a1, a2, b1, b2, b3, b4]
    refine ⟨.tup [conZ, .raw (.int .i64 100)], _, conZ_weak, .inr ⟨fun x' ti' ad' tm' h => ?_, rfl⟩⟩
    obtain ⟨rfl, rfl, rfl, rfl, _⟩ := key _ _ _ _ h
    exact hc (conOk_chk h.1)
set_option maxHeartbeats 8000000 in
theorem rconDecode_pn (b : List UInt8) (lt : Bool) (hn : b.length ≤ 140737488355000) : PN Tryz.prog 167 [.lst 1 (b.map byteA), .raw (.bool lt)] (conDec b lt) := by
  refine PN.post ?_
  obtain ⟨x0, ex⟩ : ∃ x, rNum b 1 false (0, false) = x := ⟨_, rfl⟩
  have hx : 0 < b.length → x0.2 = (1, false) := fun hp => by
    cases b with
    | nil => simp at hp
    | cons c rest =>
      have := rNum_one [] rest c
      rw [show ([] : List UInt8) ++ (c :: rest) = c :: rest from rfl, show (([] : List UInt8).length : Int) = 0 from rfl, ex] at this
      rw [this]
      rfl
  have hrd : ∀ {x : List UInt8} {ti : Int} {ad : Int} {tm : Int}, conIs b lt x ti ad tm → conRr b lt x0.2 = ((x.length : Int), x, ti, ad, tm, false) := fun h => by
    rw [hx h.flag.2]
    exact h.rread
  have o0 : 0 ≤ x0.2.1 ∧ x0.2.1 ≤ b.length := by rw [← ex]; exact rNum_ok (Int.le_refl _) (by simp)
  obtain ⟨x1, e1⟩ : ∃ x, rNum b 2 lt x0.2 = x := ⟨_, rfl⟩
  have o1 : 0 ≤ x1.2.1 ∧ x1.2.1 ≤ b.length := by rw [← e1]; exact rNum_ok o0.1 o0.2
  obtain ⟨x2, e2⟩ : ∃ x, rByt b x1.1 x1.2 = x := ⟨_, rfl⟩
  have hp2 : 0 ≤ x1.1 := by rw [← e1]; exact rNum_nn _ _ _ _
  have hq2 : x1.1 ≤ 65535 := by rw [← e1]; exact rNum_le _ _ _ _ (by decide)
  have o2 : 0 ≤ x2.2.1 ∧ x2.2.1 ≤ b.length := by rw [← e2]; exact rByt_ok o1.1 o1.2 hp2
  have zl2 : x2.1.length ≤ 65535 := by rw [← e2]; exact rByt_le _ _ _ () (by omega)
  obtain ⟨x3, e3⟩ : ∃ x, rNum b 1 false x2.2 = x := ⟨_, rfl⟩
  have o3 : 0 ≤ x3.2.1 ∧ x3.2.1 ≤ b.length := by rw [← e3]; exact rNum_ok o2.1 o2.2
  obtain ⟨x4, e4⟩ : ∃ x, rNum b 4 lt x3.2 = x := ⟨_, rfl⟩
  have o4 : 0 ≤ x4.2.1 ∧ x4.2.1 ≤ b.length := by rw [← e4]; exact rNum_ok o3.1 o3.2
  obtain ⟨x5, e5⟩ : ∃ x, rNum b 4 lt x4.2 = x := ⟨_, rfl⟩
  have o5 : 0 ≤ x5.2.1 ∧ x5.2.1 ≤ b.length := by rw [← e5]; exact rNum_ok o4.1 o4.2
  have hR : conRr b lt x0.2 = (x1.1, x2.1, x3.1, x4.1, x5.1, x5.2.2) := by simp only [conRr, e1, e2, e3, e4, e5]
  have hE := rconEncode_pure lt x2.1 x3.1 x4.1 x5.1 (by omega) 
  unfold conA conE at hE
  have key : ∀ x' ti' ad' tm', conIs b lt x' ti' ad' tm' → x' = x2.1 ∧ ti' = x3.1 ∧ ad' = x4.1 ∧ tm' = x5.1 ∧ x5.2.2 = false := fun x' ti' ad' tm' h => by
    have := (hrd h).symm.trans hR
    simp only [Prod.mk.injEq] at this
    obtain ⟨a0, a1, a2, a3, a4, j⟩ := this
    exact ⟨a1, a2, a3, a4, j.symm⟩
  refine AC.of_body (M := [14]) Tryz.func167 rfl (by kernel_rfl) (Nat.le_of_ble_eq_true rfl) ?_; simp only [Tryz.results167, Tryz.ntmps167]
  simp (dsimp := false) only [go_sem, ↓reduceIte, Nat.reduceEqDiff, Nat.reduceLT, Nat.reduceAdd, Nat.reduceSub, Nat.reduceMul, Nat.reduceLeDiff, reduceCtorEq, Int.reduceNeg, Int.reduceToNat, Int.reduceLT, Int.reduceLE, Int.reduceGE, Int.reduceGT, Int.reduceEq]
  intro k1 hk1 k hk
  have n1 := none_ne hk
  have a1 : ∀ (own : Own) o, (own.set k1 o) k = own k := fun own o => Own.set_ne _ _ n1
  have a2 : ∀ (own : Own) o, (own.set k o) k1 = own k1 := fun own o => Own.set_ne _ _ (Ne.symm n1)
  refine ACs.of (ROctet_own b lt (0, false) k _ _ (Own.set_same _ _ _) (Int.le_refl _) (by simp) hn ?_)
  simp (dsimp := false) only [go_sem, ↓reduceIte, Nat.reduceEqDiff, Nat.reduceLT, Nat.reduceAdd, Nat.reduceSub, Nat.reduceMul, Nat.reduceLeDiff, reduceCtorEq, Int.reduceNeg, Int.reduceToNat, Int.reduceLT, Int.reduceLE, Int.reduceGE, Int.reduceGT, Int.reduceEq, ex, rdO, a1, a2]
  refine ACs.of (RShort_own b lt x0.2 k _ _ (by simp only [a1, a2, Own.set_same, rdO]) o0.1 o0.2 hn ?_)
  simp (dsimp := false) only [go_sem, ↓reduceIte, Nat.reduceEqDiff, Nat.reduceLT, Nat.reduceAdd, Nat.reduceSub, Nat.reduceMul, Nat.reduceLeDiff, reduceCtorEq, Int.reduceNeg, Int.reduceToNat, Int.reduceLT, Int.reduceLE, Int.reduceGE, Int.reduceGT, Int.reduceEq, e1, a1, a2]
  refine ACs.of (RBytes_own b x1.1 lt x1.2 k _ _ (by simp only [a1, a2, Own.set_same, rdO]) o1.1 o1.2 hp2 (by omega) hn ?_)
  simp (dsimp := false) only [go_sem, ↓reduceIte, Nat.reduceEqDiff, Nat.reduceLT, Nat.reduceAdd, Nat.reduceSub, Nat.reduceMul, Nat.reduceLeDiff, reduceCtorEq, Int.reduceNeg, Int.reduceToNat, Int.reduceLT, Int.reduceLE, Int.reduceGE, Int.reduceGT, Int.reduceEq, e2, a1, a2]
  intro k2 hk2
  have n2 := none_ne hk2
  have hk2' := hk2
  rw [Own.set_ne _ _ n2] at hk2'
  have n12 := none_ne hk2'
  have b1 : ∀ (own : Own) o, (own.set k2 o) k = own k := fun own o => Own.set_ne _ _ (Ne.symm n2)
  have b2 : ∀ (own : Own) o, (own.set k o) k2 = own k2 := fun own o => Own.set_ne _ _ n2
  have b3 : ∀ (own : Own) o, (own.set k2 o) k1 = own k1 := fun own o => Own.set_ne _ _ (Ne.symm n12)
  have b4 : ∀ (own : Own) o, (own.set k1 o) k2 = own k2 := fun own o => Own.set_ne _ _ n12
  clear hk2 hk2' hk hk1
  refine ACs.of (ROctet_own b lt x2.2 k _ _ (by simp only [a1, a2, b1, b2, b3, b4, Own.set_same, rdO]) o2.1 o2.2 hn ?_)
  simp (dsimp := false) only [go_sem, ↓reduceIte, Nat.reduceEqDiff, Nat.reduceLT, Nat.reduceAdd, Nat.reduceSub, Nat.reduceMul, Nat.reduceLeDiff, reduceCtorEq, Int.reduceNeg, Int.reduceToNat, Int.reduceLT, Int.reduceLE, Int.reduceGE, Int.reduceGT, Int.reduceEq, e3, a1, a2, b1, b2, b3, b4]
  refine ACs.of (RNumber_own b lt x3.2 k _ _ (by simp only [a1, a2, b1, b2, b3, b4, Own.set_same, rdO]) o3.1 o3.2 hn ?_)
  simp (dsimp := false) only [go_sem, ↓reduceIte, Nat.reduceEqDiff, Nat.reduceLT, Nat.reduceAdd, Nat.reduceSub, Nat.reduceMul, Nat.reduceLeDiff, reduceCtorEq, Int.reduceNeg, Int.reduceToNat, Int.reduceLT, Int.reduceLE, Int.reduceGE, Int.reduceGT, Int.reduceEq, e4, a1, a2, b1, b2, b3, b4]
  refine ACs.of (RNumber_own b lt x4.2 k _ _ (by simp only [a1, a2, b1, b2, b3, b4, Own.set_same, rdO]) o4.1 o4.2 hn ?_)
  simp (dsimp := false) only [go_sem, ↓reduceIte, Nat.reduceEqDiff, Nat.reduceLT, Nat.reduceAdd, Nat.reduceSub, Nat.reduceMul, Nat.reduceLeDiff, reduceCtorEq, Int.reduceNeg, Int.reduceToNat, Int.reduceLT, Int.reduceLE, Int.reduceGE, Int.reduceGT, Int.reduceEq, e5, a1, a2, b1, b2, b3, b4]
  refine ACs.pure hE ?_
  (try simp (dsimp := false) only [go_sem, ↓reduceIte, Nat.reduceEqDiff, Nat.reduceLT, Nat.reduceAdd, Nat.reduceSub, Nat.reduceMul, Nat.reduceLeDiff, reduceCtorEq, Int.reduceNeg, Int.reduceToNat, Int.reduceLT, Int.reduceLE, Int.reduceGE, Int.reduceGT, Int.reduceEq, rdO, a1, a2, b1, b2, b3, b4])
  rcases Bool.eq_false_or_eq_true x5.2.2 with hb | hb
  · simp (dsimp := false) only [go_sem, ↓reduceIte, Nat.reduceEqDiff, Nat.reduceLT, Nat.reduceAdd, Nat.reduceSub, Nat.reduceMul, Nat.reduceLeDiff, reduceCtorEq, Int.reduceNeg, Int.reduceToNat, Int.reduceLT, Int.reduceLE, Int.reduceGE, Int.reduceGT, Int.reduceEq, hb, a1, a2, b1, b2, b3, b4, rdO]
    refine ⟨.tup [conZ, .raw (.int .i64 100)], _, conZ_weak, .inr ⟨fun x' ti' ad' tm' h => ?_, rfl⟩⟩
    rw [(key _ _ _ _ h).2.2.2.2] at hb
    cases hb
  by_cases hc : conChk lt x2.1 x3.1 x4.1 x5.1 = 0
  · simp only [hc, if_true]
    by_cases hq : conB lt x2.1 x3.1 x4.1 x5.1 = b
    · simp (dsimp := false) only [go_sem, ↓reduceIte, Nat.reduceEqDiff, Nat.reduceLT, Nat.reduceAdd, Nat.reduceSub, Nat.reduceMul, Nat.reduceLeDiff, reduceCtorEq, Int.reduceNeg, Int.reduceToNat, Int.reduceLT, Int.reduceLE, Int.reduceGE, Int.reduceGT, Int.reduceEq, hb, hc, hq, bytes_eq, a1, a2, b1, b2, b3, b4, rdO]
      exact ⟨_, _, Weak1.refl _ _, .inl ⟨_, _, _, _, ⟨hc, hq⟩, rfl⟩⟩
    · simp (dsimp := false) only [go_sem, ↓reduceIte, Nat.reduceEqDiff, Nat.reduceLT, Nat.reduceAdd, Nat.reduceSub, Nat.reduceMul, Nat.reduceLeDiff, reduceCtorEq, Int.reduceNeg, Int.reduceToNat, Int.reduceLT, Int.reduceLE, Int.reduceGE, Int.reduceGT, Int.reduceEq, hb, hc, hq, bytes_eq, a1, a2, b1, b2, b3, b4, rdO]
      refine ⟨.tup [conZ, .raw (.int .i64 100)], _, conZ_weak, .inr ⟨fun x' ti' ad' tm' h => ?_, rfl⟩⟩
      obtain ⟨rfl, rfl, rfl, rfl, _⟩ := key _ _ _ _ h
      exact hq h.2
  · simp (dsimp := false) only [go_sem, ↓reduceIte, Nat.reduceEqDiff, Nat.reduceLT, Nat.reduceAdd, Nat.reduceSub, Nat.reduceMul, Nat.reduceLeDiff, reduceCtorEq, Int.reduceNeg, Int.reduceToNat, Int.reduceLT, Int.reduceLE, Int.reduceGE, Int.reduceGT, Int.reduceEq, hb, hc, a1, a2, b1, b2, b3, b4, rdO]
    refine ⟨.tup [conZ, .raw (.int .i64 100)], _, conZ_weak, .inr ⟨fun x' ti' ad' tm' h => ?_, rfl⟩⟩
    obtain ⟨rfl, rfl, rfl, rfl, _⟩ := key _ _ _ _ h
    exact hc (conOk_chk h.1)
end Go.Proofs.YtghnigbihllnmaaGreat.Fn
