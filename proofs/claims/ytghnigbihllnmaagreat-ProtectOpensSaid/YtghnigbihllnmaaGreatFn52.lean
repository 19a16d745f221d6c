/- The secret part of a reply of a KDC. -/
import Derived.Test.YtghnigbihllnmaaGreatFn50
import Derived.Test.YtghnigbihllnmaaGreatFn45
import Derived.Test.YtghnigbihllnmaaGreatFn31
set_option linter.unusedVariables false
set_option linter.unusedSimpArgs false
namespace Go.Proofs.YtghnigbihllnmaaGreat.Fn
open Go Hl Sp Ty
set_option maxRecDepth 100000
theorem rPutOrder_own (b : List UInt8) (little : Bool) (hn : b.length ≤ 140737488355000) (own : Own) (K : AV → Own → Prop) (h : RowK 5 1 (b ++ [u8 (flagZ little)]).length ((b ++ [u8 (flagZ little)]).map byteA) own K) :
    AC Tryz.prog 67 [.lst 1 (b.map byteA), .raw (.bool little)] own K := by
  have hz : flagZ little = if little then 1 else 0 := rfl
  cases little
  all_goals
    refine AC.of_body (M := []) Tryz.func67 rfl (by kernel_rfl) (Nat.le_of_ble_eq_true rfl) ?_; simp only [Tryz.results67, Tryz.ntmps67]
    simp only [Bool.false_eq_true, if_false, if_true] at hz
    rw [hz] at h
    simp (dsimp := false) only [go_sem, ↓reduceIte, Nat.reduceEqDiff, Nat.reduceLT, Nat.reduceAdd, Nat.reduceSub, Nat.reduceMul, Nat.reduceLeDiff, reduceCtorEq, Int.reduceNeg, Int.reduceToNat, Int.reduceLT, Int.reduceLE, Int.reduceGE, Int.reduceGT, Int.reduceEq]
    refine ACs.of (rPutOctet_own b _ hn _ _ ⟨fun h0 => absurd h0 (by simp), fun k c hk hc => ?_⟩)
    simp (dsimp := false) only [go_sem, ↓reduceIte, Nat.reduceEqDiff, Nat.reduceLT, Nat.reduceAdd, Nat.reduceSub, Nat.reduceMul, Nat.reduceLeDiff, reduceCtorEq, Int.reduceNeg, Int.reduceToNat, Int.reduceLT, Int.reduceLE, Int.reduceGE, Int.reduceGT, Int.reduceEq]
    have := h.2 k c hk hc
    simpa using this
def prtA (lt : Bool) (k : Int) (n i r : ByteArray) (li kv : Int) (x : List UInt8) (tm : Int) : AV := .st [.raw (.int .u64 k), .raw (.string n), .raw (.string i), .raw (.string r), .raw (.int .i64 li), .raw (.int .i64 kv), .lst 1 (x.map byteA), .raw (.int .i64 tm)]
/-- The first error. -/
def prtChk (lt : Bool) (k : Int) (n i r : ByteArray) (li kv : Int) (x : List UInt8) (tm : Int) : Int := if clsZ k = 0 then 10 else if (validB n i r) = false then 103 else if li < 0 ∨ li > 255 ∨ kv < 0 ∨ kv > 255 ∨ tm < 0 ∨ tm > 4294967295 then 104 else if (x.length : Int) > 255 then 105 else 0
/-- The fields behind the header. -/
def prtF (lt : Bool) (k : Int) (n i r : ByteArray) (li kv : Int) (x : List UInt8) (tm : Int) : List UInt8 := numB k 8 false ++ prinB n i r ++ [u8 li] ++ [u8 kv] ++ [u8 (x.length : Int)] ++ x ++ numB tm 4 lt
def prtB (lt : Bool) (k : Int) (n i r : ByteArray) (li kv : Int) (x : List UInt8) (tm : Int) : List UInt8 := padB ([u8 (flagZ lt)] ++ prtF lt k n i r li kv x tm)
theorem prtF_length (lt : Bool) (k : Int) (n i r : ByteArray) (li kv : Int) (x : List UInt8) (tm : Int) : (prtF lt k n i r li kv x tm).length = 8 + (n.size + i.size + r.size + 3) + 1 + 1 + 1 + x.length + 4 := by
  simp only [prtF, List.length_append, prinB_length, numB_length, textB_length, List.length_singleton] <;> omega
/-- What the encoder answers. -/
def prtE (lt : Bool) (k : Int) (n i r : ByteArray) (li kv : Int) (x : List UInt8) (tm : Int) : AV := .tup [.lst 1 ((if prtChk lt k n i r li kv x tm = 0 then prtB lt k n i r li kv x tm else []).map byteA), .raw (.int .i64 (prtChk lt k n i r li kv x tm))]
theorem prtChk_ok {lt : Bool} {k : Int} {n : ByteArray} {i : ByteArray} {r : ByteArray} {li : Int} {kv : Int} {x : List UInt8} {tm : Int} (h : prtChk lt k n i r li kv x tm = 0) : clsZ k ≠ 0 ∧ validB n i r = true ∧ (0 ≤ li ∧ li ≤ 255) ∧ (0 ≤ kv ∧ kv ≤ 255) ∧ (0 ≤ tm ∧ tm ≤ 4294967295) ∧ (x.length : Int) ≤ 255 := by
  unfold prtChk at h
  split at h
  · cases h
  · rename_i h0
    split at h
    · cases h
    · rename_i h1
      have h1 : (validB n i r) = true := (Bool.eq_false_or_eq_true _).resolve_right h1
      split at h
      · cases h
      · rename_i h2
        split at h
        · cases h
        · rename_i h3
          exact ⟨h0, h1, (by omega), (by omega), (by omega), (by omega)⟩
/-- Without errors. -/
def prtOk (lt : Bool) (k : Int) (n i r : ByteArray) (li kv : Int) (x : List UInt8) (tm : Int) : Prop := prtChk lt k n i r li kv x tm = 0 ∧ 0 ≤ k ∧ k < 18446744073709551616
theorem prtOk_chk {lt : Bool} {k : Int} {n : ByteArray} {i : ByteArray} {r : ByteArray} {li : Int} {kv : Int} {x : List UInt8} {tm : Int} (h : prtOk lt k n i r li kv x tm) : prtChk lt k n i r li kv x tm = 0 := h.1
/-- What is read of the fields. -/
def prtR (b : List UInt8) (lt : Bool) (s0 : Int × Bool) : Int × (ByteArray × ByteArray × ByteArray) × Int × Int × Int × List UInt8 × Int × Bool :=
  let y1 := cKey b s0
  let y2 := cPrin b y1.2
  let y3 := cNum b 1 false y2.2
  let y4 := cNum b 1 false y3.2
  let y5 := cNum b 1 false y4.2
  let y6 := cByt b y5.1 y5.2
  let y7 := cNum b 4 lt y6.2
  (y1.1, y2.1, y3.1, y4.1, y5.1, y6.1, y7.1, y7.2.2)
theorem prtR_ok (pre post : List UInt8) (lt : Bool) (k : Int) (n : ByteArray) (i : ByteArray) (r : ByteArray) (li : Int) (kv : Int) (x : List UInt8) (tm : Int) (g1 : (0 ≤ k ∧ k < 18446744073709551616) ∧ clsZ k ≠ 0) (g2 : validB n i r = true) (g3 : 0 ≤ li ∧ li ≤ 255) (g4 : 0 ≤ kv ∧ kv ≤ 255) (g5 : 0 ≤ (x.length : Int) ∧ (x.length : Int) ≤ 255) (g6 : (x.length : Int) = (x.length : Int)) (g7 : 0 ≤ tm ∧ tm ≤ 4294967295) : prtR (pre ++ (prtF lt k n i r li kv x tm ++ post)) lt (pre.length, false) = (k, (n, i, r), li, kv, (x.length : Int), x, tm, false) := by
  obtain ⟨b, hb⟩ : ∃ b, b = pre ++ (prtF lt k n i r li kv x tm ++ post) := ⟨_, rfl⟩
  obtain ⟨B1, hc1⟩ : ∃ B, B = numB k 8 false := ⟨_, rfl⟩
  have hl1 : B1.length = 8 := by rw [hc1]; simp only [prinB_length, numB_length, textB_length]
  obtain ⟨B2, hc2⟩ : ∃ B, B = prinB n i r := ⟨_, rfl⟩
  have hl2 : B2.length = (n.size + i.size + r.size + 3) := by rw [hc2]; simp only [prinB_length, numB_length, textB_length]
  obtain ⟨c3, hc3⟩ : ∃ c, c = u8 li := ⟨_, rfl⟩
  have hu3 : (c3.toNat : Int) = li := by rw [hc3, u8_toNat]; omega
  obtain ⟨c4, hc4⟩ : ∃ c, c = u8 kv := ⟨_, rfl⟩
  have hu4 : (c4.toNat : Int) = kv := by rw [hc4, u8_toNat]; omega
  obtain ⟨c5, hc5⟩ : ∃ c, c = u8 (x.length : Int) := ⟨_, rfl⟩
  have hu5 : (c5.toNat : Int) = (x.length : Int) := by rw [hc5, u8_toNat]; omega
  obtain ⟨B7, hc7⟩ : ∃ B, B = numB tm 4 lt := ⟨_, rfl⟩
  have hl7 : B7.length = 4 := by rw [hc7]; simp only [prinB_length, numB_length, textB_length]
  have q1 : b = pre ++ (B1 ++ (B2 ++ (c3 :: (c4 :: (c5 :: (x ++ (B7 ++ post))))))) := by rw [hb, hc1, hc2, hc3, hc4, hc5, hc7]; simp [prtF]
  have q2 : b = (pre ++ B1) ++ (B2 ++ (c3 :: (c4 :: (c5 :: (x ++ (B7 ++ post)))))) := by rw [q1]; simp
  have q3 : b = (pre ++ B1 ++ B2) ++ (c3 :: (c4 :: (c5 :: (x ++ (B7 ++ post))))) := by rw [q1]; simp
  have q4 : b = (pre ++ B1 ++ B2 ++ [c3]) ++ (c4 :: (c5 :: (x ++ (B7 ++ post)))) := by rw [q1]; simp
  have q5 : b = (pre ++ B1 ++ B2 ++ [c3] ++ [c4]) ++ (c5 :: (x ++ (B7 ++ post))) := by rw [q1]; simp
  have q6 : b = (pre ++ B1 ++ B2 ++ [c3] ++ [c4] ++ [c5]) ++ (x ++ (B7 ++ post)) := by rw [q1]; simp
  have q7 : b = (pre ++ B1 ++ B2 ++ [c3] ++ [c4] ++ [c5] ++ x) ++ (B7 ++ post) := by rw [q1]; simp
  have r1 := cKey_key pre (B2 ++ (c3 :: (c4 :: (c5 :: (x ++ (B7 ++ post)))))) g1.1.1 g1.1.2 g1.2
  rw [← hc1, ← q1] at r1
  have r2 := cPrin_prin (pre ++ B1) (c3 :: (c4 :: (c5 :: (x ++ (B7 ++ post))))) n i r g2
  have p2 : ((pre ++ B1).length : Int) = (pre.length : Int) + 8 := by simp only [List.length_append, List.length_singleton, hl1]; omega
  rw [← hc2, ← q2, p2] at r2
  have r3 := cNum_one (pre ++ B1 ++ B2) (c4 :: (c5 :: (x ++ (B7 ++ post)))) c3
  have p3 : ((pre ++ B1 ++ B2).length : Int) = (pre.length : Int) + 8 + (B2.length : Int) := by simp only [List.length_append, List.length_singleton, hl1, hl2]; omega
  rw [← q3, p3] at r3
  have r4 := cNum_one (pre ++ B1 ++ B2 ++ [c3]) (c5 :: (x ++ (B7 ++ post))) c4
  have p4 : ((pre ++ B1 ++ B2 ++ [c3]).length : Int) = (pre.length : Int) + 8 + (B2.length : Int) + 1 := by simp only [List.length_append, List.length_singleton, hl1, hl2]; omega
  rw [← q4, p4] at r4
  have r5 := cNum_one (pre ++ B1 ++ B2 ++ [c3] ++ [c4]) (x ++ (B7 ++ post)) c5
  have p5 : ((pre ++ B1 ++ B2 ++ [c3] ++ [c4]).length : Int) = (pre.length : Int) + 8 + (B2.length : Int) + 1 + 1 := by simp only [List.length_append, List.length_singleton, hl1, hl2]; omega
  rw [← q5, p5] at r5
  have r6 := cByt_at (pre ++ B1 ++ B2 ++ [c3] ++ [c4] ++ [c5]) x (B7 ++ post) (x.length : Int) g6
  have p6 : ((pre ++ B1 ++ B2 ++ [c3] ++ [c4] ++ [c5]).length : Int) = (pre.length : Int) + 8 + (B2.length : Int) + 1 + 1 + 1 := by simp only [List.length_append, List.length_singleton, hl1, hl2]; omega
  rw [← q6, p6] at r6
  have r7 := cNum_num (pre ++ B1 ++ B2 ++ [c3] ++ [c4] ++ [c5] ++ x) post tm 4 lt g7.1 (by omega)
  have p7 : ((pre ++ B1 ++ B2 ++ [c3] ++ [c4] ++ [c5] ++ x).length : Int) = (pre.length : Int) + 8 + (B2.length : Int) + 1 + 1 + 1 + (x.length : Int) := by simp only [List.length_append, List.length_singleton, hl1, hl2]; omega
  rw [← hc7, ← q7, p7] at r7
  rw [← hb]
  unfold prtR
  simp only [r1, r2, r3, r4, r5, r6, r7, hu3, hu4, hu5]
/-- What is read of the fields. -/
def prtRr (b : List UInt8) (lt : Bool) (s0 : Int × Bool) : Int × (ByteArray × ByteArray × ByteArray) × Int × Int × Int × List UInt8 × Int × Bool :=
  let y1 := rKey b s0
  let y2 := rPrin b y1.2
  let y3 := rNum b 1 false y2.2
  let y4 := rNum b 1 false y3.2
  let y5 := rNum b 1 false y4.2
  let y6 := rByt b y5.1 y5.2
  let y7 := rNum b 4 lt y6.2
  (y1.1, y2.1, y3.1, y4.1, y5.1, y6.1, y7.1, y7.2.2)
theorem prtRr_ok (pre post : List UInt8) (lt : Bool) (k : Int) (n : ByteArray) (i : ByteArray) (r : ByteArray) (li : Int) (kv : Int) (x : List UInt8) (tm : Int) (g1 : (0 ≤ k ∧ k < 18446744073709551616) ∧ clsZ k ≠ 0) (g2 : validB n i r = true) (g3 : 0 ≤ li ∧ li ≤ 255) (g4 : 0 ≤ kv ∧ kv ≤ 255) (g5 : 0 ≤ (x.length : Int) ∧ (x.length : Int) ≤ 255) (g6 : (x.length : Int) = (x.length : Int)) (g7 : 0 ≤ tm ∧ tm ≤ 4294967295) : prtRr (pre ++ (prtF lt k n i r li kv x tm ++ post)) lt (pre.length, false) = (k, (n, i, r), li, kv, (x.length : Int), x, tm, false) := by
  obtain ⟨b, hb⟩ : ∃ b, b = pre ++ (prtF lt k n i r li kv x tm ++ post) := ⟨_, rfl⟩
  obtain ⟨B1, hc1⟩ : ∃ B, B = numB k 8 false := ⟨_, rfl⟩
  have hl1 : B1.length = 8 := by rw [hc1]; simp only [prinB_length, numB_length, textB_length]
  obtain ⟨B2, hc2⟩ : ∃ B, B = prinB n i r := ⟨_, rfl⟩
  have hl2 : B2.length = (n.size + i.size + r.size + 3) := by rw [hc2]; simp only [prinB_length, numB_length, textB_length]
  obtain ⟨c3, hc3⟩ : ∃ c, c = u8 li := ⟨_, rfl⟩
  have hu3 : (c3.toNat : Int) = li := by rw [hc3, u8_toNat]; omega
  obtain ⟨c4, hc4⟩ : ∃ c, c = u8 kv := ⟨_, rfl⟩
  have hu4 : (c4.toNat : Int) = kv := by rw [hc4, u8_toNat]; omega
  obtain ⟨c5, hc5⟩ : ∃ c, c = u8 (x.length : Int) := ⟨_, rfl⟩
  have hu5 : (c5.toNat : Int) = (x.length : Int) := by rw [hc5, u8_toNat]; omega
  obtain ⟨B7, hc7⟩ : ∃ B, B = numB tm 4 lt := ⟨_, rfl⟩
  have hl7 : B7.length = 4 := by rw [hc7]; simp only [prinB_length, numB_length, textB_length]
  have q1 : b = pre ++ (B1 ++ (B2 ++ (c3 :: (c4 :: (c5 :: (x ++ (B7 ++ post))))))) := by rw [hb, hc1, hc2, hc3, hc4, hc5, hc7]; simp [prtF]
  have q2 : b = (pre ++ B1) ++ (B2 ++ (c3 :: (c4 :: (c5 :: (x ++ (B7 ++ post)))))) := by rw [q1]; simp
  have q3 : b = (pre ++ B1 ++ B2) ++ (c3 :: (c4 :: (c5 :: (x ++ (B7 ++ post))))) := by rw [q1]; simp
  have q4 : b = (pre ++ B1 ++ B2 ++ [c3]) ++ (c4 :: (c5 :: (x ++ (B7 ++ post)))) := by rw [q1]; simp
  have q5 : b = (pre ++ B1 ++ B2 ++ [c3] ++ [c4]) ++ (c5 :: (x ++ (B7 ++ post))) := by rw [q1]; simp
  have q6 : b = (pre ++ B1 ++ B2 ++ [c3] ++ [c4] ++ [c5]) ++ (x ++ (B7 ++ post)) := by rw [q1]; simp
  have q7 : b = (pre ++ B1 ++ B2 ++ [c3] ++ [c4] ++ [c5] ++ x) ++ (B7 ++ post) := by rw [q1]; simp
  have r1 := rKey_key pre (B2 ++ (c3 :: (c4 :: (c5 :: (x ++ (B7 ++ post)))))) g1.1.1 g1.1.2 g1.2
  rw [← hc1, ← q1] at r1
  have r2 := rPrin_prin (pre ++ B1) (c3 :: (c4 :: (c5 :: (x ++ (B7 ++ post))))) n i r g2
  have p2 : ((pre ++ B1).length : Int) = (pre.length : Int) + 8 := by simp only [List.length_append, List.length_singleton, hl1]; omega
  rw [← hc2, ← q2, p2] at r2
  have r3 := rNum_one (pre ++ B1 ++ B2) (c4 :: (c5 :: (x ++ (B7 ++ post)))) c3
  have p3 : ((pre ++ B1 ++ B2).length : Int) = (pre.length : Int) + 8 + (B2.length : Int) := by simp only [List.length_append, List.length_singleton, hl1, hl2]; omega
  rw [← q3, p3] at r3
  have r4 := rNum_one (pre ++ B1 ++ B2 ++ [c3]) (c5 :: (x ++ (B7 ++ post))) c4
  have p4 : ((pre ++ B1 ++ B2 ++ [c3]).length : Int) = (pre.length : Int) + 8 + (B2.length : Int) + 1 := by simp only [List.length_append, List.length_singleton, hl1, hl2]; omega
  rw [← q4, p4] at r4
  have r5 := rNum_one (pre ++ B1 ++ B2 ++ [c3] ++ [c4]) (x ++ (B7 ++ post)) c5
  have p5 : ((pre ++ B1 ++ B2 ++ [c3] ++ [c4]).length : Int) = (pre.length : Int) + 8 + (B2.length : Int) + 1 + 1 := by simp only [List.length_append, List.length_singleton, hl1, hl2]; omega
  rw [← q5, p5] at r5
  have r6 := rByt_at (pre ++ B1 ++ B2 ++ [c3] ++ [c4] ++ [c5]) x (B7 ++ post) (x.length : Int) g6
  have p6 : ((pre ++ B1 ++ B2 ++ [c3] ++ [c4] ++ [c5]).length : Int) = (pre.length : Int) + 8 + (B2.length : Int) + 1 + 1 + 1 := by simp only [List.length_append, List.length_singleton, hl1, hl2]; omega
  rw [← q6, p6] at r6
  have r7 := rNum_num (pre ++ B1 ++ B2 ++ [c3] ++ [c4] ++ [c5] ++ x) post tm 4 lt g7.1 (by omega)
  have p7 : ((pre ++ B1 ++ B2 ++ [c3] ++ [c4] ++ [c5] ++ x).length : Int) = (pre.length : Int) + 8 + (B2.length : Int) + 1 + 1 + 1 + (x.length : Int) := by simp only [List.length_append, List.length_singleton, hl1, hl2]; omega
  rw [← hc7, ← q7, p7] at r7
  rw [← hb]
  unfold prtRr
  simp only [r1, r2, r3, r4, r5, r6, r7, hu3, hu4, hu5]
/-- These bytes are those of this message. -/
def prtIs (b : List UInt8) (lt : Bool) (k : Int) (n i r : ByteArray) (li kv : Int) (x : List UInt8) (tm : Int) : Prop := prtOk lt k n i r li kv x tm ∧ prtB lt k n i r li kv x tm = b
theorem prtIs.read {b : List UInt8} {lt : Bool} {k : Int} {n : ByteArray} {i : ByteArray} {r : ByteArray} {li : Int} {kv : Int} {x : List UInt8} {tm : Int} (h : prtIs b lt k n i r li kv x tm) : prtR b lt (1, false) = (k, (n, i, r), li, kv, (x.length : Int), x, tm, false) := by
  obtain ⟨h1, rfl⟩ := h
  have hc := prtChk_ok (prtOk_chk h1)
  obtain ⟨c1, c2, c3, c4, c5, c6⟩ := hc
  have d1 := h1.2.1
  have d2 := h1.2.2
  have := prtR_ok ([u8 (flagZ lt)]) (List.replicate (padN ([u8 (flagZ lt)] ++ prtF lt k n i r li kv x tm).length) 0) lt k n i r li kv x tm (⟨⟨d1, d2⟩, c1⟩) (c2) (c3) (c4) (⟨by omega, by omega⟩) (rfl) (c5)
  rw [show (([u8 (flagZ lt)]).length : Int) = 1 from rfl] at this
  rw [prtB, padB, List.append_assoc]
  exact this
theorem prtIs.rread {b : List UInt8} {lt : Bool} {k : Int} {n : ByteArray} {i : ByteArray} {r : ByteArray} {li : Int} {kv : Int} {x : List UInt8} {tm : Int} (h : prtIs b lt k n i r li kv x tm) : prtRr b lt (1, false) = (k, (n, i, r), li, kv, (x.length : Int), x, tm, false) := by
  obtain ⟨h1, rfl⟩ := h
  have hc := prtChk_ok (prtOk_chk h1)
  obtain ⟨c1, c2, c3, c4, c5, c6⟩ := hc
  have d1 := h1.2.1
  have d2 := h1.2.2
  have := prtRr_ok ([u8 (flagZ lt)]) (List.replicate (padN ([u8 (flagZ lt)] ++ prtF lt k n i r li kv x tm).length) 0) lt k n i r li kv x tm (⟨⟨d1, d2⟩, c1⟩) (c2) (c3) (c4) (⟨by omega, by omega⟩) (rfl) (c5)
  rw [show (([u8 (flagZ lt)]).length : Int) = 1 from rfl] at this
  rw [prtB, padB, List.append_assoc]
  exact this
theorem prtIs.inj {b : List UInt8} {lt : Bool} {k : Int} {n : ByteArray} {i : ByteArray} {r : ByteArray} {li : Int} {kv : Int} {x : List UInt8} {tm : Int} {k' : Int} {n' : ByteArray} {i' : ByteArray} {r' : ByteArray} {li' : Int} {kv' : Int} {x' : List UInt8} {tm' : Int} (h : prtIs b lt k n i r li kv x tm) (h' : prtIs b lt k' n' i' r' li' kv' x' tm') : k = k' ∧ n = n' ∧ i = i' ∧ r = r' ∧ li = li' ∧ kv = kv' ∧ x = x' ∧ tm = tm' := by
  have := h.read.symm.trans h'.read
  simp only [Prod.mk.injEq] at this
  obtain ⟨a0, ⟨a1, b1, d1⟩, a2, a3, a4, a5, a6, _⟩ := this
  exact ⟨a0, a1, b1, d1, a2, a3, a5, a6⟩
def prtZ : AV := .st [.raw (.int .u64 0), .raw (.string ⟨#[]⟩), .raw (.string ⟨#[]⟩), .raw (.string ⟨#[]⟩), .raw (.int .i64 0), .raw (.int .i64 0), .lst 1 [], .raw (.int .i64 0)]
/-- What the decoder answers. -/
def prtDec (b : List UInt8) (lt : Bool) (d : AV) : Prop :=
  (∃ k n i r li kv x tm, prtIs b lt k n i r li kv x tm ∧ d = .tup [prtA lt k n i r li kv x tm, .raw (.int .i64 0)]) ∨
  ((∀ k n i r li kv x tm, ¬ prtIs b lt k n i r li kv x tm) ∧ d = .tup [prtZ, .raw (.int .i64 100)])
theorem prtDec.unique {b : List UInt8} {lt : Bool} {d d' : AV} (h : prtDec b lt d) (h' : prtDec b lt d') : d = d' := by
  rcases h with ⟨k, n, i, r, li, kv, x, tm, h1, rfl⟩ | ⟨h1, rfl⟩
  · rcases h' with ⟨k', n', i', r', li', kv', x', tm', h2, rfl⟩ | ⟨h2, rfl⟩
    · obtain ⟨rfl, rfl, rfl, rfl, rfl, rfl, rfl, rfl⟩ := h1.inj h2
      rfl
    · exact absurd h1 (h2 _ _ _ _ _ _ _ _)
  · rcases h' with ⟨k', n', i', r', li', kv', x', tm', h2, rfl⟩ | ⟨h2, rfl⟩
    · exact absurd h2 (h1 _ _ _ _ _ _ _ _)
    · rfl
theorem prtDec.of {b : List UInt8} {lt : Bool} {k : Int} {n : ByteArray} {i : ByteArray} {r : ByteArray} {li : Int} {kv : Int} {x : List UInt8} {tm : Int} {d : AV} (h : prtDec b lt d) (h1 : prtIs b lt k n i r li kv x tm) : d = .tup [prtA lt k n i r li kv x tm, .raw (.int .i64 0)] := h.unique (.inl ⟨_, _, _, _, _, _, _, _, h1, rfl⟩)
theorem prtZ_st {own : Own} : Weak1 own (.st [.raw (.int .u64 0), .raw (.string ⟨#[]⟩), .raw (.string ⟨#[]⟩), .raw (.string ⟨#[]⟩), .raw (.int .i64 0), .raw (.int .i64 0), .raw (.slice none 0 0), .raw (.int .i64 0)]) own prtZ := (Weak1.st (Weak.one (pre := [.raw (.int .u64 0), .raw (.string ⟨#[]⟩), .raw (.string ⟨#[]⟩), .raw (.string ⟨#[]⟩), .raw (.int .i64 0), .raw (.int .i64 0)]) (post := [.raw (.int .i64 0)]) (Weak1.nil (wd := 1))))
theorem prtZ_weak {own : Own} {e : AV} : Weak1 own (.tup [.st [.raw (.int .u64 0), .raw (.string ⟨#[]⟩), .raw (.string ⟨#[]⟩), .raw (.string ⟨#[]⟩), .raw (.int .i64 0), .raw (.int .i64 0), .raw (.slice none 0 0), .raw (.int .i64 0)], e]) own (.tup [prtZ, e]) := Weak1.tup (Weak.one (pre := []) prtZ_st)
set_option maxHeartbeats 8000000 in
theorem prtEncode_pure (lt : Bool) (k : Int) (n i r : ByteArray) (li kv : Int) (x : List UInt8) (tm : Int) (zn : n.size ≤ 100000) (zi : i.size ≤ 100000) (zr : r.size ≤ 100000) (zx : x.length ≤ 100000) (zs0 : 0 ≤ k) (zs1 : k < 18446744073709551616) :
    PC Tryz.prog 89 [prtA lt k n i r li kv x tm, .raw (.bool lt)] (prtE lt k n i r li kv x tm) := by
  refine PC.post ?_
  obtain ⟨b0, e0⟩ : ∃ b, b = [u8 (flagZ lt)] := ⟨_, rfl⟩
  have l0 : b0.length = 1 := by rw [e0]; rfl
  obtain ⟨b1, e1⟩ : ∃ b, b0 ++ numB k 8 false = b := ⟨_, rfl⟩
  have l1 : b1.length = b0.length + 8 := by rw [← e1, List.length_append] <;> first | rfl | simp only [prinB_length, numB_length, textB_length]
  obtain ⟨b2, e2⟩ : ∃ b, b1 ++ prinB n i r = b := ⟨_, rfl⟩
  have l2 : b2.length = b1.length + (n.size + i.size + r.size + 3) := by rw [← e2, List.length_append] <;> first | rfl | simp only [prinB_length, numB_length, textB_length]
  obtain ⟨b3, e3⟩ : ∃ b, b2 ++ [u8 li] = b := ⟨_, rfl⟩
  have l3 : b3.length = b2.length + 1 := by rw [← e3, List.length_append] <;> first | rfl | simp only [prinB_length, numB_length, textB_length]
  obtain ⟨b4, e4⟩ : ∃ b, b3 ++ [u8 kv] = b := ⟨_, rfl⟩
  have l4 : b4.length = b3.length + 1 := by rw [← e4, List.length_append] <;> first | rfl | simp only [prinB_length, numB_length, textB_length]
  obtain ⟨b5, e5⟩ : ∃ b, b4 ++ [u8 (x.length : Int)] = b := ⟨_, rfl⟩
  have l5 : b5.length = b4.length + 1 := by rw [← e5, List.length_append] <;> first | rfl | simp only [prinB_length, numB_length, textB_length]
  obtain ⟨b6, e6⟩ : ∃ b, b5 ++ x = b := ⟨_, rfl⟩
  have l6 : b6.length = b5.length + x.length := by rw [← e6, List.length_append] <;> first | rfl | simp only [prinB_length, numB_length, textB_length]
  obtain ⟨b7, e7⟩ : ∃ b, b6 ++ numB tm 4 lt = b := ⟨_, rfl⟩
  have l7 : b7.length = b6.length + 4 := by rw [← e7, List.length_append] <;> first | rfl | simp only [prinB_length, numB_length, textB_length]
  obtain ⟨b8, e8⟩ : ∃ b, b7 ++ List.replicate (padN b7.length) 0 = b := ⟨_, rfl⟩
  have hfin : prtB lt k n i r li kv x tm = b8 := by rw [prtB, padB, prtF, ← e8, ← e7, ← e6, ← e5, ← e4, ← e3, ← e2, ← e1, e0]; simp only [List.append_assoc]
  have p2 := PutPrincipal_pure b1 n i r (by omega)
  rw [e2] at p2
  have p3 := PutOctet_pure b2 li (by omega)
  rw [e3] at p3
  have p4 := PutOctet_pure b3 kv (by omega)
  rw [e4] at p4
  have p5 := PutOctet_pure b4 (x.length : Int) (by omega)
  rw [e5] at p5
  have p7 := PutNumber_pure b6 tm lt (by omega)
  rw [e7] at p7
  have p8 := Pad_pure b7 (by omega)
  rw [e8] at p8
  have hb0 : [] ++ [u8 (flagZ lt)] = b0 := by rw [List.nil_append, e0]
  obtain ⟨kb, ek⟩ : ∃ b, numB k 8 false = b := ⟨_, rfl⟩
  have lk : kb.length = 8 := by rw [← ek, numB_length]
  rw [ek] at e1
  have hKB := keyBytes_pure k (by omega) (by omega)
  rw [ek] at hKB
  unfold prtA
  refine AC.of_body (M := []) Tryz.func89 rfl (by kernel_rfl) (Nat.le_of_ble_eq_true rfl) ?_; simp only [Tryz.results89, Tryz.ntmps89]
  simp (dsimp := false) only [go_sem, ↓reduceIte, Nat.reduceEqDiff, Nat.reduceLT, Nat.reduceAdd, Nat.reduceSub, Nat.reduceMul, Nat.reduceLeDiff, reduceCtorEq, Int.reduceNeg, Int.reduceToNat, Int.reduceLT, Int.reduceLE, Int.reduceGE, Int.reduceGT, Int.reduceEq]
  refine ACs.pure (keyValid_pure k (by omega) (by omega)) ?_
  by_cases h0_0 : clsZ k = 0
  · simp (dsimp := false) only [go_sem, ↓reduceIte, Nat.reduceEqDiff, Nat.reduceLT, Nat.reduceAdd, Nat.reduceSub, Nat.reduceMul, Nat.reduceLeDiff, reduceCtorEq, Int.reduceNeg, Int.reduceToNat, Int.reduceLT, Int.reduceLE, Int.reduceGE, Int.reduceGT, Int.reduceEq, h0_0]
    have hC : prtChk lt k n i r li kv x tm = 10 := by rw [prtChk, if_pos (by simp [h0_0])]
    refine ⟨noOwn, ?_⟩
    rw [prtE, hC, if_neg (by decide)]
    exact Weak1.nil2
  · simp (dsimp := false) only [go_sem, ↓reduceIte, Nat.reduceEqDiff, Nat.reduceLT, Nat.reduceAdd, Nat.reduceSub, Nat.reduceMul, Nat.reduceLeDiff, reduceCtorEq, Int.reduceNeg, Int.reduceToNat, Int.reduceLT, Int.reduceLE, Int.reduceGE, Int.reduceGT, Int.reduceEq, h0_0]
    refine ACs.pure (Valid_pure n i r (by omega) (by omega) (by omega)) ?_
    rcases Bool.eq_false_or_eq_true (validB n i r) with h1_0 | h1_0
    · simp (dsimp := false) only [go_sem, ↓reduceIte, Nat.reduceEqDiff, Nat.reduceLT, Nat.reduceAdd, Nat.reduceSub, Nat.reduceMul, Nat.reduceLeDiff, reduceCtorEq, Int.reduceNeg, Int.reduceToNat, Int.reduceLT, Int.reduceLE, Int.reduceGE, Int.reduceGT, Int.reduceEq, h1_0]
      refine ACs.pure (outside9_pure li _) ?_
      by_cases h2_0 : li < 0 ∨ li > 255
      · simp (dsimp := false) only [go_sem, ↓reduceIte, Nat.reduceEqDiff, Nat.reduceLT, Nat.reduceAdd, Nat.reduceSub, Nat.reduceMul, Nat.reduceLeDiff, reduceCtorEq, Int.reduceNeg, Int.reduceToNat, Int.reduceLT, Int.reduceLE, Int.reduceGE, Int.reduceGT, Int.reduceEq, h2_0]
        have hC : prtChk lt k n i r li kv x tm = 104 := by rw [prtChk, if_neg (by simp [h0_0]), if_neg (by simp [h1_0]), if_pos (by omega)]
        refine ⟨noOwn, ?_⟩
        rw [prtE, hC, if_neg (by decide)]
        exact Weak1.nil2
      · simp (dsimp := false) only [go_sem, ↓reduceIte, Nat.reduceEqDiff, Nat.reduceLT, Nat.reduceAdd, Nat.reduceSub, Nat.reduceMul, Nat.reduceLeDiff, reduceCtorEq, Int.reduceNeg, Int.reduceToNat, Int.reduceLT, Int.reduceLE, Int.reduceGE, Int.reduceGT, Int.reduceEq, h2_0]
        refine ACs.pure (outside9_pure kv _) ?_
        by_cases h2_1 : kv < 0 ∨ kv > 255
        · simp (dsimp := false) only [go_sem, ↓reduceIte, Nat.reduceEqDiff, Nat.reduceLT, Nat.reduceAdd, Nat.reduceSub, Nat.reduceMul, Nat.reduceLeDiff, reduceCtorEq, Int.reduceNeg, Int.reduceToNat, Int.reduceLT, Int.reduceLE, Int.reduceGE, Int.reduceGT, Int.reduceEq, h2_1]
          have hC : prtChk lt k n i r li kv x tm = 104 := by rw [prtChk, if_neg (by simp [h0_0]), if_neg (by simp [h1_0]), if_pos (by omega)]
          refine ⟨noOwn, ?_⟩
          rw [prtE, hC, if_neg (by decide)]
          exact Weak1.nil2
        · simp (dsimp := false) only [go_sem, ↓reduceIte, Nat.reduceEqDiff, Nat.reduceLT, Nat.reduceAdd, Nat.reduceSub, Nat.reduceMul, Nat.reduceLeDiff, reduceCtorEq, Int.reduceNeg, Int.reduceToNat, Int.reduceLT, Int.reduceLE, Int.reduceGE, Int.reduceGT, Int.reduceEq, h2_1]
          refine ACs.pure (outside9_pure tm _) ?_
          by_cases h2_2 : tm < 0 ∨ tm > 4294967295
          · simp (dsimp := false) only [go_sem, ↓reduceIte, Nat.reduceEqDiff, Nat.reduceLT, Nat.reduceAdd, Nat.reduceSub, Nat.reduceMul, Nat.reduceLeDiff, reduceCtorEq, Int.reduceNeg, Int.reduceToNat, Int.reduceLT, Int.reduceLE, Int.reduceGE, Int.reduceGT, Int.reduceEq, h2_2]
            have hC : prtChk lt k n i r li kv x tm = 104 := by rw [prtChk, if_neg (by simp [h0_0]), if_neg (by simp [h1_0]), if_pos (by omega)]
            refine ⟨noOwn, ?_⟩
            rw [prtE, hC, if_neg (by decide)]
            exact Weak1.nil2
          · simp (dsimp := false) only [go_sem, ↓reduceIte, Nat.reduceEqDiff, Nat.reduceLT, Nat.reduceAdd, Nat.reduceSub, Nat.reduceMul, Nat.reduceLeDiff, reduceCtorEq, Int.reduceNeg, Int.reduceToNat, Int.reduceLT, Int.reduceLE, Int.reduceGE, Int.reduceGT, Int.reduceEq, h2_2]
            by_cases h3_0 : (x.length : Int) > 255
            · simp (dsimp := false) only [go_sem, ↓reduceIte, Nat.reduceEqDiff, Nat.reduceLT, Nat.reduceAdd, Nat.reduceSub, Nat.reduceMul, Nat.reduceLeDiff, reduceCtorEq, Int.reduceNeg, Int.reduceToNat, Int.reduceLT, Int.reduceLE, Int.reduceGE, Int.reduceGT, Int.reduceEq, h3_0]
              have hC : prtChk lt k n i r li kv x tm = 105 := by rw [prtChk, if_neg (by simp [h0_0]), if_neg (by simp [h1_0]), if_neg (by omega), if_pos (by first | omega | (simp [h3_0]; done))]
              refine ⟨noOwn, ?_⟩
              rw [prtE, hC, if_neg (by decide)]
              exact Weak1.nil2
            · simp (dsimp := false) only [go_sem, ↓reduceIte, Nat.reduceEqDiff, Nat.reduceLT, Nat.reduceAdd, Nat.reduceSub, Nat.reduceMul, Nat.reduceLeDiff, reduceCtorEq, Int.reduceNeg, Int.reduceToNat, Int.reduceLT, Int.reduceLE, Int.reduceGE, Int.reduceGT, Int.reduceEq, h3_0]
              have hC : prtChk lt k n i r li kv x tm = 0 := by rw [prtChk, if_neg (by simp [h0_0]), if_neg (by simp [h1_0]), if_neg (by omega), if_neg (by omega)]
              (try refine AW.draw (M := []) [.v, .e, .e, .v, .v, .e, .e, .v] mixed (by kernel_rfl) ?_)
              (try simp (dsimp := false) only [go_sem, ↓reduceIte, Nat.reduceEqDiff, Nat.reduceLT, Nat.reduceAdd, Nat.reduceSub, Nat.reduceMul, Nat.reduceLeDiff, reduceCtorEq, Int.reduceNeg, Int.reduceToNat, Int.reduceLT, Int.reduceLE, Int.reduceGE, Int.reduceGT, Int.reduceEq])
              refine ACs.pure (Flag_pure lt) ?_
              (try simp (dsimp := false) only [go_sem, ↓reduceIte, Nat.reduceEqDiff, Nat.reduceLT, Nat.reduceAdd, Nat.reduceSub, Nat.reduceMul, Nat.reduceLeDiff, reduceCtorEq, Int.reduceNeg, Int.reduceToNat, Int.reduceLT, Int.reduceLE, Int.reduceGE, Int.reduceGT, Int.reduceEq])
              refine ACs.arg (pre := []) (Weak1.nil (wd := 1)) ?_
              refine ACs.of (PutOctet_own [] (flagZ lt) (by simp) _ _ ⟨fun h0 => absurd h0 (by rw [hb0]; omega), fun k1 c1 hk1 hc1 => ?_⟩)
              rw [hb0] at hc1
              simp only [hb0]
              (try simp (dsimp := false) only [go_sem, ↓reduceIte, Nat.reduceEqDiff, Nat.reduceLT, Nat.reduceAdd, Nat.reduceSub, Nat.reduceMul, Nat.reduceLeDiff, reduceCtorEq, Int.reduceNeg, Int.reduceToNat, Int.reduceLT, Int.reduceLE, Int.reduceGE, Int.reduceGT, Int.reduceEq])
              refine ACs.pure hKB ?_
              have hcs : b0.map byteA ++ kb.map byteA = b1.map byteA := by rw [← e1, List.map_append]
              simp (dsimp := false) only [go_sem, ↓reduceIte, Nat.reduceEqDiff, Nat.reduceLT, Nat.reduceAdd, Nat.reduceSub, Nat.reduceMul, Nat.reduceLeDiff, reduceCtorEq, Int.reduceNeg, Int.reduceToNat, Int.reduceLT, Int.reduceLE, Int.reduceGE, Int.reduceGT, Int.reduceEq, flat_byte, lk, hcs]
              refine ⟨okA_bytes kb, by omega, by omega, fun k2 c2 hk2 hc2 => ?_⟩
              have hmv := fun o o' => Own.set_move hk1 k2 o o'
              have hk2 := Own.set_none hk1 hk2
              simp (dsimp := false) only [go_sem, ↓reduceIte, Nat.reduceEqDiff, Nat.reduceLT, Nat.reduceAdd, Nat.reduceSub, Nat.reduceMul, Nat.reduceLeDiff, reduceCtorEq, Int.reduceNeg, Int.reduceToNat, Int.reduceLT, Int.reduceLE, Int.reduceGE, Int.reduceGT, Int.reduceEq, hmv]
              refine ACs.arg (pre := []) (rowW _ k2 c2 c2 _ b1 [] (by rw [List.append_nil]; exact Own.set_same _ _ _) (by omega) (by omega) (by omega)) ?_
              refine ACs.pure p2 ?_
              (try simp (dsimp := false) only [go_sem, ↓reduceIte, Nat.reduceEqDiff, Nat.reduceLT, Nat.reduceAdd, Nat.reduceSub, Nat.reduceMul, Nat.reduceLeDiff, reduceCtorEq, Int.reduceNeg, Int.reduceToNat, Int.reduceLT, Int.reduceLE, Int.reduceGE, Int.reduceGT, Int.reduceEq])
              have w1 : IntKind.i64.wrap (0 + 1) = 1 := by decide
              have w2 : IntKind.i64.wrap (1 + 1) = 2 := by decide
              have w3 : IntKind.i64.wrap (2 + 1) = 3 := by decide
              refine AW.rounds (M := []) 4 ?_
              simp (dsimp := false) only [go_sem, ↓reduceIte, Nat.reduceEqDiff, Nat.reduceLT, Nat.reduceAdd, Nat.reduceSub, Nat.reduceMul, Nat.reduceLeDiff, reduceCtorEq, Int.reduceNeg, Int.reduceToNat, Int.reduceLT, Int.reduceLE, Int.reduceGE, Int.reduceGT, Int.reduceEq, w1, w2, w3]
              refine ACs.pure p3 ?_
              simp (dsimp := false) only [go_sem, ↓reduceIte, Nat.reduceEqDiff, Nat.reduceLT, Nat.reduceAdd, Nat.reduceSub, Nat.reduceMul, Nat.reduceLeDiff, reduceCtorEq, Int.reduceNeg, Int.reduceToNat, Int.reduceLT, Int.reduceLE, Int.reduceGE, Int.reduceGT, Int.reduceEq, w1, w2, w3]
              refine ACs.pure p4 ?_
              simp (dsimp := false) only [go_sem, ↓reduceIte, Nat.reduceEqDiff, Nat.reduceLT, Nat.reduceAdd, Nat.reduceSub, Nat.reduceMul, Nat.reduceLeDiff, reduceCtorEq, Int.reduceNeg, Int.reduceToNat, Int.reduceLT, Int.reduceLE, Int.reduceGE, Int.reduceGT, Int.reduceEq, w1, w2, w3]
              refine ACs.of (PutOctet_own b4 (x.length : Int) (by omega) _ _ ⟨fun h0 => absurd h0 (by rw [e5]; omega), fun k3 c3 hk3 hc3 => ?_⟩)
              rw [e5] at hc3
              simp only [e5]
              simp (dsimp := false) only [go_sem, ↓reduceIte, Nat.reduceEqDiff, Nat.reduceLT, Nat.reduceAdd, Nat.reduceSub, Nat.reduceMul, Nat.reduceLeDiff, reduceCtorEq, Int.reduceNeg, Int.reduceToNat, Int.reduceLT, Int.reduceLE, Int.reduceGE, Int.reduceGT, Int.reduceEq, w1, w2, w3]
              (try refine AW.draw (M := []) [.v, .v, .v, .e, .v, .v, .v, .e, .e, .v, .v] mixed (by kernel_rfl) ?_)
              have hcs2 : b5.map byteA ++ x.map byteA = b6.map byteA := by rw [← e6, List.map_append]
              simp (dsimp := false) only [go_sem, ↓reduceIte, Nat.reduceEqDiff, Nat.reduceLT, Nat.reduceAdd, Nat.reduceSub, Nat.reduceMul, Nat.reduceLeDiff, reduceCtorEq, Int.reduceNeg, Int.reduceToNat, Int.reduceLT, Int.reduceLE, Int.reduceGE, Int.reduceGT, Int.reduceEq, flat_byte, hcs2]
              refine ⟨okA_bytes x, by omega, by omega, fun k4 c4 hk4 hc4 => ?_⟩
              have hmv2 := fun o o' => Own.set_move hk3 k4 o o'
              have hk4 := Own.set_none hk3 hk4
              rw [hmv2]
              refine ACs.arg (pre := []) (rowW _ k4 c4 c4 _ b6 [] (by rw [List.append_nil]; exact Own.set_same _ _ _) (by omega) (by omega) (by omega)) ?_
              refine ACs.pure p7 ?_
              (try simp (dsimp := false) only [go_sem, ↓reduceIte, Nat.reduceEqDiff, Nat.reduceLT, Nat.reduceAdd, Nat.reduceSub, Nat.reduceMul, Nat.reduceLeDiff, reduceCtorEq, Int.reduceNeg, Int.reduceToNat, Int.reduceLT, Int.reduceLE, Int.reduceGE, Int.reduceGT, Int.reduceEq])
              refine ACs.pure p8 ?_
              (try simp (dsimp := false) only [go_sem, ↓reduceIte, Nat.reduceEqDiff, Nat.reduceLT, Nat.reduceAdd, Nat.reduceSub, Nat.reduceMul, Nat.reduceLeDiff, reduceCtorEq, Int.reduceNeg, Int.reduceToNat, Int.reduceLT, Int.reduceLE, Int.reduceGE, Int.reduceGT, Int.reduceEq])
              rw [prtE, hC, if_pos rfl, hfin]
              exact ⟨_, Weak1.refl _ _⟩
    · simp (dsimp := false) only [go_sem, ↓reduceIte, Nat.reduceEqDiff, Nat.reduceLT, Nat.reduceAdd, Nat.reduceSub, Nat.reduceMul, Nat.reduceLeDiff, reduceCtorEq, Int.reduceNeg, Int.reduceToNat, Int.reduceLT, Int.reduceLE, Int.reduceGE, Int.reduceGT, Int.reduceEq, h1_0]
      have hC : prtChk lt k n i r li kv x tm = 103 := by rw [prtChk, if_neg (by simp [h0_0]), if_pos (by simp [h1_0])]
      refine ⟨noOwn, ?_⟩
      rw [prtE, hC, if_neg (by decide)]
      exact Weak1.nil2
set_option maxHeartbeats 8000000 in
theorem rprtEncode_pure (lt : Bool) (k : Int) (n i r : ByteArray) (li kv : Int) (x : List UInt8) (tm : Int) (zn : n.size ≤ 100000) (zi : i.size ≤ 100000) (zr : r.size ≤ 100000) (zx : x.length ≤ 100000) (zs0 : 0 ≤ k) (zs1 : k < 18446744073709551616) :
    PC Tryz.prog 11 [prtA lt k n i r li kv x tm, .raw (.bool lt)] (prtE lt k n i r li kv x tm) := by
  refine PC.post ?_
  obtain ⟨b0, e0⟩ : ∃ b, b = [u8 (flagZ lt)] := ⟨_, rfl⟩
  have l0 : b0.length = 1 := by rw [e0]; rfl
  obtain ⟨b1, e1⟩ : ∃ b, b0 ++ numB k 8 false = b := ⟨_, rfl⟩
  have l1 : b1.length = b0.length + 8 := by rw [← e1, List.length_append] <;> first | rfl | simp only [prinB_length, numB_length, textB_length]
  obtain ⟨b2, e2⟩ : ∃ b, b1 ++ prinB n i r = b := ⟨_, rfl⟩
  have l2 : b2.length = b1.length + (n.size + i.size + r.size + 3) := by rw [← e2, List.length_append] <;> first | rfl | simp only [prinB_length, numB_length, textB_length]
  obtain ⟨b3, e3⟩ : ∃ b, b2 ++ [u8 li] = b := ⟨_, rfl⟩
  have l3 : b3.length = b2.length + 1 := by rw [← e3, List.length_append] <;> first | rfl | simp only [prinB_length, numB_length, textB_length]
  obtain ⟨b4, e4⟩ : ∃ b, b3 ++ [u8 kv] = b := ⟨_, rfl⟩
  have l4 : b4.length = b3.length + 1 := by rw [← e4, List.length_append] <;> first | rfl | simp only [prinB_length, numB_length, textB_length]
  obtain ⟨b5, e5⟩ : ∃ b, b4 ++ [u8 (x.length : Int)] = b := ⟨_, rfl⟩
  have l5 : b5.length = b4.length + 1 := by rw [← e5, List.length_append] <;> first | rfl | simp only [prinB_length, numB_length, textB_length]
  obtain ⟨b6, e6⟩ : ∃ b, b5 ++ x = b := ⟨_, rfl⟩
  have l6 : b6.length = b5.length + x.length := by rw [← e6, List.length_append] <;> first | rfl | simp only [prinB_length, numB_length, textB_length]
  obtain ⟨b7, e7⟩ : ∃ b, b6 ++ numB tm 4 lt = b := ⟨_, rfl⟩
  have l7 : b7.length = b6.length + 4 := by rw [← e7, List.length_append] <;> first | rfl | simp only [prinB_length, numB_length, textB_length]
  obtain ⟨b8, e8⟩ : ∃ b, b7 ++ List.replicate (padN b7.length) 0 = b := ⟨_, rfl⟩
  have hfin : prtB lt k n i r li kv x tm = b8 := by rw [prtB, padB, prtF, ← e8, ← e7, ← e6, ← e5, ← e4, ← e3, ← e2, ← e1, e0]; simp only [List.append_assoc]
  have p2 := rPutPrincipal_pure b1 n i r (by omega)
  rw [e2] at p2
  have p3 := rPutOctet_pure b2 li (by omega)
  rw [e3] at p3
  have p4 := rPutOctet_pure b3 kv (by omega)
  rw [e4] at p4
  have p5 := rPutOctet_pure b4 (x.length : Int) (by omega)
  rw [e5] at p5
  have p7 := rPutNumber_pure b6 tm lt (by omega)
  rw [e7] at p7
  have p8 := rPad_pure b7 (by omega)
  rw [e8] at p8
  have hb0 : [] ++ [u8 (flagZ lt)] = b0 := by rw [List.nil_append, e0]
  obtain ⟨kb, ek⟩ : ∃ b, numB k 8 false = b := ⟨_, rfl⟩
  have lk : kb.length = 8 := by rw [← ek, numB_length]
  rw [ek] at e1
  have hKB := rkeyBytes_pure k (by omega) (by omega)
  rw [ek] at hKB
  unfold prtA
  refine AC.of_body (M := []) Tryz.func11 rfl (by kernel_rfl) (Nat.le_of_ble_eq_true rfl) ?_; simp only [Tryz.results11, Tryz.ntmps11]
  simp (dsimp := false) only [go_sem, ↓reduceIte, Nat.reduceEqDiff, Nat.reduceLT, Nat.reduceAdd, Nat.reduceSub, Nat.reduceMul, Nat.reduceLeDiff, reduceCtorEq, Int.reduceNeg, Int.reduceToNat, Int.reduceLT, Int.reduceLE, Int.reduceGE, Int.reduceGT, Int.reduceEq]
  refine ACs.pure (rkeyValid_pure k (by omega) (by omega)) ?_
  by_cases h0_0 : clsZ k = 0
  · simp (dsimp := false) only [go_sem, ↓reduceIte, Nat.reduceEqDiff, Nat.reduceLT, Nat.reduceAdd, Nat.reduceSub, Nat.reduceMul, Nat.reduceLeDiff, reduceCtorEq, Int.reduceNeg, Int.reduceToNat, Int.reduceLT, Int.reduceLE, Int.reduceGE, Int.reduceGT, Int.reduceEq, h0_0]
    have hC : prtChk lt k n i r li kv x tm = 10 := by rw [prtChk, if_pos (by simp [h0_0])]
    refine ⟨noOwn, ?_⟩
    rw [prtE, hC, if_neg (by decide)]
    exact Weak1.nil2
  · simp (dsimp := false) only [go_sem, ↓reduceIte, Nat.reduceEqDiff, Nat.reduceLT, Nat.reduceAdd, Nat.reduceSub, Nat.reduceMul, Nat.reduceLeDiff, reduceCtorEq, Int.reduceNeg, Int.reduceToNat, Int.reduceLT, Int.reduceLE, Int.reduceGE, Int.reduceGT, Int.reduceEq, h0_0]
    refine ACs.pure (rValid_pure n i r (by omega) (by omega) (by omega)) ?_
    rcases Bool.eq_false_or_eq_true (validB n i r) with h1_0 | h1_0
    · simp (dsimp := false) only [go_sem, ↓reduceIte, Nat.reduceEqDiff, Nat.reduceLT, Nat.reduceAdd, Nat.reduceSub, Nat.reduceMul, Nat.reduceLeDiff, reduceCtorEq, Int.reduceNeg, Int.reduceToNat, Int.reduceLT, Int.reduceLE, Int.reduceGE, Int.reduceGT, Int.reduceEq, h1_0]
      refine ACs.pure (within9_pure li _) ?_
      by_cases h2_0 : li ≥ 0 ∧ li ≤ 255
      rotate_left
      · simp (dsimp := false) only [go_sem, ↓reduceIte, Nat.reduceEqDiff, Nat.reduceLT, Nat.reduceAdd, Nat.reduceSub, Nat.reduceMul, Nat.reduceLeDiff, reduceCtorEq, Int.reduceNeg, Int.reduceToNat, Int.reduceLT, Int.reduceLE, Int.reduceGE, Int.reduceGT, Int.reduceEq, h2_0]
        have hC : prtChk lt k n i r li kv x tm = 104 := by rw [prtChk, if_neg (by simp [h0_0]), if_neg (by simp [h1_0]), if_pos (by omega)]
        refine ⟨noOwn, ?_⟩
        rw [prtE, hC, if_neg (by decide)]
        exact Weak1.nil2
      · simp (dsimp := false) only [go_sem, ↓reduceIte, Nat.reduceEqDiff, Nat.reduceLT, Nat.reduceAdd, Nat.reduceSub, Nat.reduceMul, Nat.reduceLeDiff, reduceCtorEq, Int.reduceNeg, Int.reduceToNat, Int.reduceLT, Int.reduceLE, Int.reduceGE, Int.reduceGT, Int.reduceEq, h2_0]
        refine ACs.pure (within9_pure kv _) ?_
        by_cases h2_1 : kv ≥ 0 ∧ kv ≤ 255
        rotate_left
        · simp (dsimp := false) only [go_sem, ↓reduceIte, Nat.reduceEqDiff, Nat.reduceLT, Nat.reduceAdd, Nat.reduceSub, Nat.reduceMul, Nat.reduceLeDiff, reduceCtorEq, Int.reduceNeg, Int.reduceToNat, Int.reduceLT, Int.reduceLE, Int.reduceGE, Int.reduceGT, Int.reduceEq, h2_1]
          have hC : prtChk lt k n i r li kv x tm = 104 := by rw [prtChk, if_neg (by simp [h0_0]), if_neg (by simp [h1_0]), if_pos (by omega)]
          refine ⟨noOwn, ?_⟩
          rw [prtE, hC, if_neg (by decide)]
          exact Weak1.nil2
        · simp (dsimp := false) only [go_sem, ↓reduceIte, Nat.reduceEqDiff, Nat.reduceLT, Nat.reduceAdd, Nat.reduceSub, Nat.reduceMul, Nat.reduceLeDiff, reduceCtorEq, Int.reduceNeg, Int.reduceToNat, Int.reduceLT, Int.reduceLE, Int.reduceGE, Int.reduceGT, Int.reduceEq, h2_1]
          refine ACs.pure (within9_pure tm _) ?_
          by_cases h2_2 : tm ≥ 0 ∧ tm ≤ 4294967295
          rotate_left
          · simp (dsimp := false) only [go_sem, ↓reduceIte, Nat.reduceEqDiff, Nat.reduceLT, Nat.reduceAdd, Nat.reduceSub, Nat.reduceMul, Nat.reduceLeDiff, reduceCtorEq, Int.reduceNeg, Int.reduceToNat, Int.reduceLT, Int.reduceLE, Int.reduceGE, Int.reduceGT, Int.reduceEq, h2_2]
            have hC : prtChk lt k n i r li kv x tm = 104 := by rw [prtChk, if_neg (by simp [h0_0]), if_neg (by simp [h1_0]), if_pos (by omega)]
            refine ⟨noOwn, ?_⟩
            rw [prtE, hC, if_neg (by decide)]
            exact Weak1.nil2
          · simp (dsimp := false) only [go_sem, ↓reduceIte, Nat.reduceEqDiff, Nat.reduceLT, Nat.reduceAdd, Nat.reduceSub, Nat.reduceMul, Nat.reduceLeDiff, reduceCtorEq, Int.reduceNeg, Int.reduceToNat, Int.reduceLT, Int.reduceLE, Int.reduceGE, Int.reduceGT, Int.reduceEq, h2_2]
            by_cases h3_0 : (x.length : Int) > 255
            · simp (dsimp := false) only [go_sem, ↓reduceIte, Nat.reduceEqDiff, Nat.reduceLT, Nat.reduceAdd, Nat.reduceSub, Nat.reduceMul, Nat.reduceLeDiff, reduceCtorEq, Int.reduceNeg, Int.reduceToNat, Int.reduceLT, Int.reduceLE, Int.reduceGE, Int.reduceGT, Int.reduceEq, h3_0]
              have hC : prtChk lt k n i r li kv x tm = 105 := by rw [prtChk, if_neg (by simp [h0_0]), if_neg (by simp [h1_0]), if_neg (by omega), if_pos (by first | omega | (simp [h3_0]; done))]
              refine ⟨noOwn, ?_⟩
              rw [prtE, hC, if_neg (by decide)]
              exact Weak1.nil2
            · simp (dsimp := false) only [go_sem, ↓reduceIte, Nat.reduceEqDiff, Nat.reduceLT, Nat.reduceAdd, Nat.reduceSub, Nat.reduceMul, Nat.reduceLeDiff, reduceCtorEq, Int.reduceNeg, Int.reduceToNat, Int.reduceLT, Int.reduceLE, Int.reduceGE, Int.reduceGT, Int.reduceEq, h3_0]
              have hC : prtChk lt k n i r li kv x tm = 0 := by rw [prtChk, if_neg (by simp [h0_0]), if_neg (by simp [h1_0]), if_neg (by omega), if_neg (by omega)]
              (try refine AW.draw (M := []) [.v, .e, .v, .v, .e, .e, .v] mixed (by kernel_rfl) ?_)
              (try simp (dsimp := false) only [go_sem, ↓reduceIte, Nat.reduceEqDiff, Nat.reduceLT, Nat.reduceAdd, Nat.reduceSub, Nat.reduceMul, Nat.reduceLeDiff, reduceCtorEq, Int.reduceNeg, Int.reduceToNat, Int.reduceLT, Int.reduceLE, Int.reduceGE, Int.reduceGT, Int.reduceEq])
              refine ACs.arg (pre := []) (Weak1.nil (wd := 1)) ?_
              refine ACs.of (rPutOrder_own [] lt (by simp) _ _ ⟨fun h0 => absurd h0 (by rw [hb0]; omega), fun k1 c1 hk1 hc1 => ?_⟩)
              rw [hb0] at hc1
              simp only [hb0]
              (try simp (dsimp := false) only [go_sem, ↓reduceIte, Nat.reduceEqDiff, Nat.reduceLT, Nat.reduceAdd, Nat.reduceSub, Nat.reduceMul, Nat.reduceLeDiff, reduceCtorEq, Int.reduceNeg, Int.reduceToNat, Int.reduceLT, Int.reduceLE, Int.reduceGE, Int.reduceGT, Int.reduceEq])
              refine ACs.pure hKB ?_
              have hcs : b0.map byteA ++ kb.map byteA = b1.map byteA := by rw [← e1, List.map_append]
              simp (dsimp := false) only [go_sem, ↓reduceIte, Nat.reduceEqDiff, Nat.reduceLT, Nat.reduceAdd, Nat.reduceSub, Nat.reduceMul, Nat.reduceLeDiff, reduceCtorEq, Int.reduceNeg, Int.reduceToNat, Int.reduceLT, Int.reduceLE, Int.reduceGE, Int.reduceGT, Int.reduceEq, flat_byte, lk, hcs]
              refine ⟨okA_bytes kb, by omega, by omega, fun k2 c2 hk2 hc2 => ?_⟩
              have hmv := fun o o' => Own.set_move hk1 k2 o o'
              have hk2 := Own.set_none hk1 hk2
              simp (dsimp := false) only [go_sem, ↓reduceIte, Nat.reduceEqDiff, Nat.reduceLT, Nat.reduceAdd, Nat.reduceSub, Nat.reduceMul, Nat.reduceLeDiff, reduceCtorEq, Int.reduceNeg, Int.reduceToNat, Int.reduceLT, Int.reduceLE, Int.reduceGE, Int.reduceGT, Int.reduceEq, hmv]
              refine ACs.arg (pre := []) (rowW _ k2 c2 c2 _ b1 [] (by rw [List.append_nil]; exact Own.set_same _ _ _) (by omega) (by omega) (by omega)) ?_
              refine ACs.pure p2 ?_
              (try simp (dsimp := false) only [go_sem, ↓reduceIte, Nat.reduceEqDiff, Nat.reduceLT, Nat.reduceAdd, Nat.reduceSub, Nat.reduceMul, Nat.reduceLeDiff, reduceCtorEq, Int.reduceNeg, Int.reduceToNat, Int.reduceLT, Int.reduceLE, Int.reduceGE, Int.reduceGT, Int.reduceEq])
              (try refine AW.draw (M := []) [.v, .v, .v, .e, .v, .v, .e, .v, .v, .v, .e, .v] mixed (by kernel_rfl) ?_)
              (try simp (dsimp := false) only [go_sem, ↓reduceIte, Nat.reduceEqDiff, Nat.reduceLT, Nat.reduceAdd, Nat.reduceSub, Nat.reduceMul, Nat.reduceLeDiff, reduceCtorEq, Int.reduceNeg, Int.reduceToNat, Int.reduceLT, Int.reduceLE, Int.reduceGE, Int.reduceGT, Int.reduceEq])
              refine ACs.pure p3 ?_
              (try simp (dsimp := false) only [go_sem, ↓reduceIte, Nat.reduceEqDiff, Nat.reduceLT, Nat.reduceAdd, Nat.reduceSub, Nat.reduceMul, Nat.reduceLeDiff, reduceCtorEq, Int.reduceNeg, Int.reduceToNat, Int.reduceLT, Int.reduceLE, Int.reduceGE, Int.reduceGT, Int.reduceEq])
              refine ACs.pure p4 ?_
              (try simp (dsimp := false) only [go_sem, ↓reduceIte, Nat.reduceEqDiff, Nat.reduceLT, Nat.reduceAdd, Nat.reduceSub, Nat.reduceMul, Nat.reduceLeDiff, reduceCtorEq, Int.reduceNeg, Int.reduceToNat, Int.reduceLT, Int.reduceLE, Int.reduceGE, Int.reduceGT, Int.reduceEq])
              refine ACs.of (rPutOctet_own b4 (x.length : Int) (by omega) _ _ ⟨fun h0 => absurd h0 (by rw [e5]; omega), fun k3 c3 hk3 hc3 => ?_⟩)
              rw [e5] at hc3
              simp only [e5]
              (try simp (dsimp := false) only [go_sem, ↓reduceIte, Nat.reduceEqDiff, Nat.reduceLT, Nat.reduceAdd, Nat.reduceSub, Nat.reduceMul, Nat.reduceLeDiff, reduceCtorEq, Int.reduceNeg, Int.reduceToNat, Int.reduceLT, Int.reduceLE, Int.reduceGE, Int.reduceGT, Int.reduceEq])
              (try refine AW.draw (M := []) [.v, .v, .v, .e, .v, .v, .v, .e, .e, .v, .v] mixed (by kernel_rfl) ?_)
              have hcs2 : b5.map byteA ++ x.map byteA = b6.map byteA := by rw [← e6, List.map_append]
              simp (dsimp := false) only [go_sem, ↓reduceIte, Nat.reduceEqDiff, Nat.reduceLT, Nat.reduceAdd, Nat.reduceSub, Nat.reduceMul, Nat.reduceLeDiff, reduceCtorEq, Int.reduceNeg, Int.reduceToNat, Int.reduceLT, Int.reduceLE, Int.reduceGE, Int.reduceGT, Int.reduceEq, flat_byte, hcs2]
              refine ⟨okA_bytes x, by omega, by omega, fun k4 c4 hk4 hc4 => ?_⟩
              have hmv2 := fun o o' => Own.set_move hk3 k4 o o'
              have hk4 := Own.set_none hk3 hk4
              rw [hmv2]
              refine ACs.arg (pre := []) (rowW _ k4 c4 c4 _ b6 [] (by rw [List.append_nil]; exact Own.set_same _ _ _) (by omega) (by omega) (by omega)) ?_
              refine ACs.pure p7 ?_
              (try simp (dsimp := false) only [go_sem, ↓reduceIte, Nat.reduceEqDiff, Nat.reduceLT, Nat.reduceAdd, Nat.reduceSub, Nat.reduceMul, Nat.reduceLeDiff, reduceCtorEq, Int.reduceNeg, Int.reduceToNat, Int.reduceLT, Int.reduceLE, Int.reduceGE, Int.reduceGT, Int.reduceEq])
              refine ACs.pure p8 ?_
              (try simp (dsimp := false) only [go_sem, ↓reduceIte, Nat.reduceEqDiff, Nat.reduceLT, Nat.reduceAdd, Nat.reduceSub, Nat.reduceMul, Nat.reduceLeDiff, reduceCtorEq, Int.reduceNeg, Int.reduceToNat, Int.reduceLT, Int.reduceLE, Int.reduceGE, Int.reduceGT, Int.reduceEq])
              rw [prtE, hC, if_pos rfl, hfin]
              exact ⟨_, Weak1.refl _ _⟩
    · simp (dsimp := false) only [go_sem, ↓reduceIte, Nat.reduceEqDiff, Nat.reduceLT, Nat.reduceAdd, Nat.reduceSub, Nat.reduceMul, Nat.reduceLeDiff, reduceCtorEq, Int.reduceNeg, Int.reduceToNat, Int.reduceLT, Int.reduceLE, Int.reduceGE, Int.reduceGT, Int.reduceEq, h1_0]
      have hC : prtChk lt k n i r li kv x tm = 103 := by rw [prtChk, if_neg (by simp [h0_0]), if_pos (by simp [h1_0])]
      refine ⟨noOwn, ?_⟩
      rw [prtE, hC, if_neg (by decide)]
      exact Weak1.nil2
theorem prtIs.flag {b : List UInt8} {lt : Bool} {k : Int} {n : ByteArray} {i : ByteArray} {r : ByteArray} {li : Int} {kv : Int} {x : List UInt8} {tm : Int} (h : prtIs b lt k n i r li kv x tm) : b.getD 0 0 = u8 (flagZ lt) ∧ 0 < b.length := by
  obtain ⟨_, rfl⟩ := h
  constructor
  · simp [prtB, padB]
  · simp [prtB, padB]
theorem prtIs.not {b : List UInt8} {lt : Bool} {k : Int} {n : ByteArray} {i : ByteArray} {r : ByteArray} {li : Int} {kv : Int} {x : List UInt8} {tm : Int} {k' : Int} {n' : ByteArray} {i' : ByteArray} {r' : ByteArray} {li' : Int} {kv' : Int} {x' : List UInt8} {tm' : Int} (h : prtIs b lt k n i r li kv x tm) (h' : prtIs b (!lt) k' n' i' r' li' kv' x' tm') : False := by
  have e := h.flag.1.symm.trans h'.flag.1
  cases lt <;> exact absurd e (by decide)
set_option maxHeartbeats 8000000 in
theorem prtDecode_pn (b : List UInt8) (lt : Bool) (hn : b.length ≤ 140737488355000) : PN Tryz.prog 21 [.lst 1 (b.map byteA), .raw (.bool lt)] (prtDec b lt) := by
  refine PN.post ?_
  obtain ⟨x0, ex⟩ : ∃ x, cNum b 1 false (0, false) = x := ⟨_, rfl⟩
  have hx : 0 < b.length → x0.2 = (1, false) := fun hp => by
    cases b with
    | nil => simp at hp
    | cons c rest =>
      have := cNum_one [] rest c
      rw [show ([] : List UInt8) ++ (c :: rest) = c :: rest from rfl, show (([] : List UInt8).length : Int) = 0 from rfl, ex] at this
      rw [this]
      rfl
  have hrd : ∀ {k : Int} {n : ByteArray} {i : ByteArray} {r : ByteArray} {li : Int} {kv : Int} {x : List UInt8} {tm : Int}, prtIs b lt k n i r li kv x tm → prtR b lt x0.2 = (k, (n, i, r), li, kv, (x.length : Int), x, tm, false) := fun h => by
    rw [hx h.flag.2]
    exact h.read
  have o0 : 0 ≤ x0.2.1 ∧ x0.2.1 ≤ b.length := by rw [← ex]; exact cNum_ok (Int.le_refl _) (by simp)
  obtain ⟨x1, e1⟩ : ∃ x, cKey b x0.2 = x := ⟨_, rfl⟩
  have o1 : 0 ≤ x1.2.1 ∧ x1.2.1 ≤ b.length := by rw [← e1]; exact cKey_ok o0.1 o0.2
  have zk1 : 0 ≤ x1.1 ∧ x1.1 < 18446744073709551616 := by rw [← e1]; exact keyR_range _
  obtain ⟨⟨⟨p2_1, p2_2, p2_3⟩, s2⟩, e2⟩ : ∃ x, cPrin b x1.2 = x := ⟨_, rfl⟩
  have o2 : 0 ≤ s2.1 ∧ s2.1 ≤ b.length := by have := cPrin_ok (b := b) (s := x1.2) o1.1 o1.2; rw [e2] at this; exact this
  have z2 := cPrin_small b x1.2
  rw [e2] at z2
  simp only at z2
  obtain ⟨x3, e3⟩ : ∃ x, cNum b 1 false s2 = x := ⟨_, rfl⟩
  have o3 : 0 ≤ x3.2.1 ∧ x3.2.1 ≤ b.length := by rw [← e3]; exact cNum_ok o2.1 o2.2
  obtain ⟨x4, e4⟩ : ∃ x, cNum b 1 false x3.2 = x := ⟨_, rfl⟩
  have o4 : 0 ≤ x4.2.1 ∧ x4.2.1 ≤ b.length := by rw [← e4]; exact cNum_ok o3.1 o3.2
  obtain ⟨x5, e5⟩ : ∃ x, cNum b 1 false x4.2 = x := ⟨_, rfl⟩
  have o5 : 0 ≤ x5.2.1 ∧ x5.2.1 ≤ b.length := by rw [← e5]; exact cNum_ok o4.1 o4.2
  obtain ⟨x6, e6⟩ : ∃ x, cByt b x5.1 x5.2 = x := ⟨_, rfl⟩
  have hp6 : 0 ≤ x5.1 := by rw [← e5]; exact cNum_nn _ _ _ _
  have hq6 : x5.1 ≤ 65535 := by rw [← e5]; exact cNum_le _ _ _ _ (by decide)
  have o6 : 0 ≤ x6.2.1 ∧ x6.2.1 ≤ b.length := by rw [← e6]; exact cByt_ok o5.1 o5.2 hp6
  have zl6 : x6.1.length ≤ 65535 := by rw [← e6]; exact cByt_le _ _ _ () (by omega)
  obtain ⟨x7, e7⟩ : ∃ x, cNum b 4 lt x6.2 = x := ⟨_, rfl⟩
  have o7 : 0 ≤ x7.2.1 ∧ x7.2.1 ≤ b.length := by rw [← e7]; exact cNum_ok o6.1 o6.2
  have hR : prtR b lt x0.2 = (x1.1, (p2_1, p2_2, p2_3), x3.1, x4.1, x5.1, x6.1, x7.1, x7.2.2) := by simp only [prtR, e1, e2, e3, e4, e5, e6, e7]
  have hE := prtEncode_pure lt x1.1 p2_1 p2_2 p2_3 x3.1 x4.1 x6.1 x7.1 (by omega) (by omega) (by omega) (by omega) zk1.1 zk1.2
  unfold prtA prtE at hE
  have key : ∀ k' n' i' r' li' kv' x' tm', prtIs b lt k' n' i' r' li' kv' x' tm' → k' = x1.1 ∧ n' = p2_1 ∧ i' = p2_2 ∧ r' = p2_3 ∧ li' = x3.1 ∧ kv' = x4.1 ∧ x' = x6.1 ∧ tm' = x7.1 ∧ x7.2.2 = false := fun k' n' i' r' li' kv' x' tm' h => by
    have := (hrd h).symm.trans hR
    simp only [Prod.mk.injEq] at this
    obtain ⟨a0, ⟨a1, b1, d1⟩, a2, a3, a4, a5, a6, j⟩ := this
    exact ⟨a0, a1, b1, d1, a2, a3, a5, a6, j.symm⟩
  refine AC.of_body (M := []) Tryz.func21 rfl (by kernel_rfl) (Nat.le_of_ble_eq_true rfl) ?_; simp only [Tryz.results21, Tryz.ntmps21]
  simp (dsimp := false) only [go_sem, ↓reduceIte, Nat.reduceEqDiff, Nat.reduceLT, Nat.reduceAdd, Nat.reduceSub, Nat.reduceMul, Nat.reduceLeDiff, reduceCtorEq, Int.reduceNeg, Int.reduceToNat, Int.reduceLT, Int.reduceLE, Int.reduceGE, Int.reduceGT, Int.reduceEq]
  intro k1 hk1
  refine ACs.of (CNew_own b 0 lt _ _ fun k hk => ?_)
  have n1 := none_ne hk
  have a1 : ∀ (own : Own) o, (own.set k1 o) k = own k := fun own o => Own.set_ne _ _ n1
  have a2 : ∀ (own : Own) o, (own.set k o) k1 = own k1 := fun own o => Own.set_ne _ _ (Ne.symm n1)
  simp (dsimp := false) only [go_sem, ↓reduceIte, Nat.reduceEqDiff, Nat.reduceLT, Nat.reduceAdd, Nat.reduceSub, Nat.reduceMul, Nat.reduceLeDiff, reduceCtorEq, Int.reduceNeg, Int.reduceToNat, Int.reduceLT, Int.reduceLE, Int.reduceGE, Int.reduceGT, Int.reduceEq, a1, a2]
  refine ACs.of (COctet_own b lt (0, false) k _ _ (Own.set_same _ _ _) (Int.le_refl _) (by simp) hn ?_)
  simp (dsimp := false) only [go_sem, ↓reduceIte, Nat.reduceEqDiff, Nat.reduceLT, Nat.reduceAdd, Nat.reduceSub, Nat.reduceMul, Nat.reduceLeDiff, reduceCtorEq, Int.reduceNeg, Int.reduceToNat, Int.reduceLT, Int.reduceLE, Int.reduceGE, Int.reduceGT, Int.reduceEq, ex, a1, a2]
  refine ACs.of (CKey_own b lt x0.2 k _ _ (by simp only [a1, a2, Own.set_same]) o0.1 o0.2 hn ?_)
  simp (dsimp := false) only [go_sem, ↓reduceIte, Nat.reduceEqDiff, Nat.reduceLT, Nat.reduceAdd, Nat.reduceSub, Nat.reduceMul, Nat.reduceLeDiff, reduceCtorEq, Int.reduceNeg, Int.reduceToNat, Int.reduceLT, Int.reduceLE, Int.reduceGE, Int.reduceGT, Int.reduceEq, e1, a1, a2]
  intro k2 hk2
  have n2 := none_ne hk2
  have hk2' := hk2
  rw [Own.set_ne _ _ n2] at hk2'
  have n12 := none_ne hk2'
  have b1 : ∀ (own : Own) o, (own.set k2 o) k = own k := fun own o => Own.set_ne _ _ (Ne.symm n2)
  have b2 : ∀ (own : Own) o, (own.set k o) k2 = own k2 := fun own o => Own.set_ne _ _ n2
  have b3 : ∀ (own : Own) o, (own.set k2 o) k1 = own k1 := fun own o => Own.set_ne _ _ (Ne.symm n12)
  have b4 : ∀ (own : Own) o, (own.set k1 o) k2 = own k2 := fun own o => Own.set_ne _ _ n12
  clear hk2 hk2' hk hk1
  refine ACs.of (CPrincipal_own b lt x1.2 k _ _ (by simp only [a1, a2, b1, b2, b3, b4, Own.set_same]) hn ?_)
  simp (dsimp := false) only [go_sem, ↓reduceIte, Nat.reduceEqDiff, Nat.reduceLT, Nat.reduceAdd, Nat.reduceSub, Nat.reduceMul, Nat.reduceLeDiff, reduceCtorEq, Int.reduceNeg, Int.reduceToNat, Int.reduceLT, Int.reduceLE, Int.reduceGE, Int.reduceGT, Int.reduceEq, e2, prinA, a1, a2, b1, b2, b3, b4]
  refine ACs.of (COctet_own b lt s2 k _ _ (by simp only [a1, a2, b1, b2, b3, b4, Own.set_same]) o2.1 o2.2 hn ?_)
  simp (dsimp := false) only [go_sem, ↓reduceIte, Nat.reduceEqDiff, Nat.reduceLT, Nat.reduceAdd, Nat.reduceSub, Nat.reduceMul, Nat.reduceLeDiff, reduceCtorEq, Int.reduceNeg, Int.reduceToNat, Int.reduceLT, Int.reduceLE, Int.reduceGE, Int.reduceGT, Int.reduceEq, e3, a1, a2, b1, b2, b3, b4]
  refine ACs.of (COctet_own b lt x3.2 k _ _ (by simp only [a1, a2, b1, b2, b3, b4, Own.set_same]) o3.1 o3.2 hn ?_)
  simp (dsimp := false) only [go_sem, ↓reduceIte, Nat.reduceEqDiff, Nat.reduceLT, Nat.reduceAdd, Nat.reduceSub, Nat.reduceMul, Nat.reduceLeDiff, reduceCtorEq, Int.reduceNeg, Int.reduceToNat, Int.reduceLT, Int.reduceLE, Int.reduceGE, Int.reduceGT, Int.reduceEq, e4, a1, a2, b1, b2, b3, b4]
  refine ACs.of (COctet_own b lt x4.2 k _ _ (by simp only [a1, a2, b1, b2, b3, b4, Own.set_same]) o4.1 o4.2 hn ?_)
  simp (dsimp := false) only [go_sem, ↓reduceIte, Nat.reduceEqDiff, Nat.reduceLT, Nat.reduceAdd, Nat.reduceSub, Nat.reduceMul, Nat.reduceLeDiff, reduceCtorEq, Int.reduceNeg, Int.reduceToNat, Int.reduceLT, Int.reduceLE, Int.reduceGE, Int.reduceGT, Int.reduceEq, e5, a1, a2, b1, b2, b3, b4]
  refine ACs.of (CBytes_own b x5.1 lt x5.2 k _ _ (by simp only [a1, a2, b1, b2, b3, b4, Own.set_same]) o5.1 o5.2 hp6 (by omega) hn ?_)
  simp (dsimp := false) only [go_sem, ↓reduceIte, Nat.reduceEqDiff, Nat.reduceLT, Nat.reduceAdd, Nat.reduceSub, Nat.reduceMul, Nat.reduceLeDiff, reduceCtorEq, Int.reduceNeg, Int.reduceToNat, Int.reduceLT, Int.reduceLE, Int.reduceGE, Int.reduceGT, Int.reduceEq, e6, a1, a2, b1, b2, b3, b4]
  refine ACs.of (CNumber_own b lt x6.2 k _ _ (by simp only [a1, a2, b1, b2, b3, b4, Own.set_same]) o6.1 o6.2 hn ?_)
  simp (dsimp := false) only [go_sem, ↓reduceIte, Nat.reduceEqDiff, Nat.reduceLT, Nat.reduceAdd, Nat.reduceSub, Nat.reduceMul, Nat.reduceLeDiff, reduceCtorEq, Int.reduceNeg, Int.reduceToNat, Int.reduceLT, Int.reduceLE, Int.reduceGE, Int.reduceGT, Int.reduceEq, e7, a1, a2, b1, b2, b3, b4]
  refine ACs.pure hE ?_
  simp (dsimp := false) only [go_sem, ↓reduceIte, Nat.reduceEqDiff, Nat.reduceLT, Nat.reduceAdd, Nat.reduceSub, Nat.reduceMul, Nat.reduceLeDiff, reduceCtorEq, Int.reduceNeg, Int.reduceToNat, Int.reduceLT, Int.reduceLE, Int.reduceGE, Int.reduceGT, Int.reduceEq, a1, a2, b1, b2, b3, b4]
  refine ACs.of (kdcIs_own b lt x7.2 k _ _ (by simp only [a1, a2, b1, b2, b3, b4, Own.set_same]) _ _ ?_)
  rcases Bool.eq_false_or_eq_true x7.2.2 with hb | hb
  · simp (dsimp := false) only [go_sem, ↓reduceIte, Nat.reduceEqDiff, Nat.reduceLT, Nat.reduceAdd, Nat.reduceSub, Nat.reduceMul, Nat.reduceLeDiff, reduceCtorEq, Int.reduceNeg, Int.reduceToNat, Int.reduceLT, Int.reduceLE, Int.reduceGE, Int.reduceGT, Int.reduceEq, hb, a1, a2, b1, b2, b3, b4, Bool.not_true, Bool.not_false, Bool.true_and, Bool.false_and, Bool.and_false, Bool.and_true, decide_true, decide_false, decide_eq_true_eq]
    refine ⟨.tup [prtZ, .raw (.int .i64 100)], _, prtZ_weak, .inr ⟨fun k' n' i' r' li' kv' x' tm' h => ?_, rfl⟩⟩
    rw [(key _ _ _ _ _ _ _ _ h).2.2.2.2.2.2.2.2] at hb
    cases hb
  by_cases hc : prtChk lt x1.1 p2_1 p2_2 p2_3 x3.1 x4.1 x6.1 x7.1 = 0
  · simp only [hc, if_true]
    by_cases hq : prtB lt x1.1 p2_1 p2_2 p2_3 x3.1 x4.1 x6.1 x7.1 = b
    · simp (dsimp := false) only [go_sem, ↓reduceIte, Nat.reduceEqDiff, Nat.reduceLT, Nat.reduceAdd, Nat.reduceSub, Nat.reduceMul, Nat.reduceLeDiff, reduceCtorEq, Int.reduceNeg, Int.reduceToNat, Int.reduceLT, Int.reduceLE, Int.reduceGE, Int.reduceGT, Int.reduceEq, hb, hc, hq, bytes_eq, a1, a2, b1, b2, b3, b4, Bool.not_true, Bool.not_false, Bool.true_and, Bool.false_and, Bool.and_false, Bool.and_true, decide_true, decide_false, decide_eq_true_eq]
      exact ⟨_, _, Weak1.refl _ _, .inl ⟨_, _, _, _, _, _, _, _, ⟨⟨hc, zk1.1, zk1.2⟩, hq⟩, rfl⟩⟩
    · simp (dsimp := false) only [go_sem, ↓reduceIte, Nat.reduceEqDiff, Nat.reduceLT, Nat.reduceAdd, Nat.reduceSub, Nat.reduceMul, Nat.reduceLeDiff, reduceCtorEq, Int.reduceNeg, Int.reduceToNat, Int.reduceLT, Int.reduceLE, Int.reduceGE, Int.reduceGT, Int.reduceEq, hb, hc, hq, bytes_eq, a1, a2, b1, b2, b3, b4, Bool.not_true, Bool.not_false, Bool.true_and, Bool.false_and, Bool.and_false, Bool.and_true, decide_true, decide_false, decide_eq_true_eq]
      refine ⟨.tup [prtZ, .raw (.int .i64 100)], _, prtZ_weak, .inr ⟨fun k' n' i' r' li' kv' x' tm' h => ?_, rfl⟩⟩
      obtain ⟨rfl, rfl, rfl, rfl, rfl, rfl, rfl, rfl, _⟩ := key _ _ _ _ _ _ _ _ h
      exact hq h.2
  · simp (dsimp := false) only [go_sem, ↓reduceIte, Nat.reduceEqDiff, Nat.reduceLT, Nat.reduceAdd, Nat.reduceSub, Nat.reduceMul, Nat.reduceLeDiff, reduceCtorEq, Int.reduceNeg, Int.reduceToNat, Int.reduceLT, Int.reduceLE, Int.reduceGE, Int.reduceGT, Int.reduceEq, hb, hc, a1, a2, b1, b2, b3, b4, Bool.not_true, Bool.not_false, Bool.true_and, Bool.false_and, Bool.and_false, Bool.and_true, decide_true, decide_false, decide_eq_true_eq]
    refine ⟨.tup [prtZ, .raw (.int .i64 100)], _, prtZ_weak, .inr ⟨fun k' n' i' r' li' kv' x' tm' h => ?_, rfl⟩⟩
    obtain ⟨rfl, rfl, rfl, rfl, rfl, rfl, rfl, rfl, _⟩ := key _ _ _ _ _ _ _ _ h
    exact hc (prtOk_chk h.1)
end Go.Proofs.YtghnigbihllnmaaGreat.Fn
