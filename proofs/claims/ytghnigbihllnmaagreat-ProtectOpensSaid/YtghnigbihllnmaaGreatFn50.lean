/- Replies of a KDC. -/
import Derived.Test.YtghnigbihllnmaaGreatFn45
import Derived.Test.YtghnigbihllnmaaGreatFn39
set_option linter.unusedVariables false
set_option linter.unusedSimpArgs false
namespace Go.Proofs.YtghnigbihllnmaaGreat.Fn
open Go Hl Sp Ty
set_option maxRecDepth 100000
def repA (lt : Bool) (n i r : ByteArray) (tm ex kv : Int) (x : List UInt8) : AV := .st [.raw (.bool lt), .raw (.string n), .raw (.string i), .raw (.string r), .raw (.int .i64 tm), .raw (.int .i64 ex), .raw (.int .i64 kv), .lst 1 (x.map byteA)]
/-- The first error. -/
def repChk (lt : Bool) (n i r : ByteArray) (tm ex kv : Int) (x : List UInt8) : Int := if (validB n i r) = false then 103 else if tm < 0 ∨ tm > 4294967295 ∨ ex < 0 ∨ ex > 4294967295 ∨ kv < 0 ∨ kv > 255 then 104 else if (x.length : Int) > 1012 then 105 else 0
/-- The fields behind the header. -/
def repF (lt : Bool) (n i r : ByteArray) (tm ex kv : Int) (x : List UInt8) : List UInt8 := prinB n i r ++ numB tm 4 lt ++ [u8 1] ++ numB ex 4 lt ++ [u8 kv] ++ numB (x.length : Int) 2 lt ++ x
def repB (lt : Bool) (n i r : ByteArray) (tm ex kv : Int) (x : List UInt8) : List UInt8 := hdB 2 lt ++ repF lt n i r tm ex kv x
theorem repF_length (lt : Bool) (n i r : ByteArray) (tm ex kv : Int) (x : List UInt8) : (repF lt n i r tm ex kv x).length = (n.size + i.size + r.size + 3) + 4 + 1 + 4 + 1 + 2 + x.length := by
  simp only [repF, List.length_append, prinB_length, numB_length, textB_length, List.length_singleton] <;> omega
/-- What the encoder answers. -/
def repE (lt : Bool) (n i r : ByteArray) (tm ex kv : Int) (x : List UInt8) : AV := .tup [.lst 1 ((if repChk lt n i r tm ex kv x = 0 then repB lt n i r tm ex kv x else []).map byteA), .raw (.int .i64 (repChk lt n i r tm ex kv x))]
theorem repChk_ok {lt : Bool} {n : ByteArray} {i : ByteArray} {r : ByteArray} {tm : Int} {ex : Int} {kv : Int} {x : List UInt8} (h : repChk lt n i r tm ex kv x = 0) : validB n i r = true ∧ (0 ≤ tm ∧ tm ≤ 4294967295) ∧ (0 ≤ ex ∧ ex ≤ 4294967295) ∧ (0 ≤ kv ∧ kv ≤ 255) ∧ (x.length : Int) ≤ 1012 := by
  unfold repChk at h
  split at h
  · cases h
  · rename_i h0
    have h0 : (validB n i r) = true := (Bool.eq_false_or_eq_true _).resolve_right h0
    split at h
    · cases h
    · rename_i h1
      split at h
      · cases h
      · rename_i h2
        exact ⟨h0, (by omega), (by omega), (by omega), (by omega)⟩
/-- Without errors. -/
def repOk (lt : Bool) (n i r : ByteArray) (tm ex kv : Int) (x : List UInt8) : Prop := repChk lt n i r tm ex kv x = 0
theorem repOk_chk {lt : Bool} {n : ByteArray} {i : ByteArray} {r : ByteArray} {tm : Int} {ex : Int} {kv : Int} {x : List UInt8} (h : repOk lt n i r tm ex kv x) : repChk lt n i r tm ex kv x = 0 := h
/-- What is read of the fields. -/
def repR (b : List UInt8) (lt : Bool) (s0 : Int × Bool) : (ByteArray × ByteArray × ByteArray) × Int × Int × Int × Int × Int × List UInt8 × Bool :=
  let y1 := cPrin b s0
  let y2 := cNum b 4 lt y1.2
  let y3 := cNum b 1 false y2.2
  let y4 := cNum b 4 lt y3.2
  let y5 := cNum b 1 false y4.2
  let y6 := cNum b 2 lt y5.2
  let y7 := cByt b y6.1 y6.2
  (y1.1, y2.1, y3.1, y4.1, y5.1, y6.1, y7.1, y7.2.2)
theorem repR_ok (pre post : List UInt8) (lt : Bool) (n : ByteArray) (i : ByteArray) (r : ByteArray) (tm : Int) (ex : Int) (kv : Int) (x : List UInt8) (g1 : validB n i r = true) (g2 : 0 ≤ tm ∧ tm ≤ 4294967295) (g3 : 0 ≤ 1 ∧ 1 ≤ 255) (g4 : 0 ≤ ex ∧ ex ≤ 4294967295) (g5 : 0 ≤ kv ∧ kv ≤ 255) (g6 : 0 ≤ (x.length : Int) ∧ (x.length : Int) ≤ 65535) (g7 : (x.length : Int) = (x.length : Int)) : repR (pre ++ (repF lt n i r tm ex kv x ++ post)) lt (pre.length, false) = ((n, i, r), tm, 1, ex, kv, (x.length : Int), x, false) := by
  obtain ⟨b, hb⟩ : ∃ b, b = pre ++ (repF lt n i r tm ex kv x ++ post) := ⟨_, rfl⟩
  obtain ⟨B1, hc1⟩ : ∃ B, B = prinB n i r := ⟨_, rfl⟩
  have hl1 : B1.length = (n.size + i.size + r.size + 3) := by rw [hc1]; simp only [prinB_length, numB_length, textB_length]
  obtain ⟨B2, hc2⟩ : ∃ B, B = numB tm 4 lt := ⟨_, rfl⟩
  have hl2 : B2.length = 4 := by rw [hc2]; simp only [prinB_length, numB_length, textB_length]
  obtain ⟨c3, hc3⟩ : ∃ c, c = u8 1 := ⟨_, rfl⟩
  have hu3 : (c3.toNat : Int) = 1 := by rw [hc3, u8_toNat]; omega
  obtain ⟨B4, hc4⟩ : ∃ B, B = numB ex 4 lt := ⟨_, rfl⟩
  have hl4 : B4.length = 4 := by rw [hc4]; simp only [prinB_length, numB_length, textB_length]
  obtain ⟨c5, hc5⟩ : ∃ c, c = u8 kv := ⟨_, rfl⟩
  have hu5 : (c5.toNat : Int) = kv := by rw [hc5, u8_toNat]; omega
  obtain ⟨B6, hc6⟩ : ∃ B, B = numB (x.length : Int) 2 lt := ⟨_, rfl⟩
  have hl6 : B6.length = 2 := by rw [hc6]; simp only [prinB_length, numB_length, textB_length]
  have q1 : b = pre ++ (B1 ++ (B2 ++ (c3 :: (B4 ++ (c5 :: (B6 ++ (x ++ post))))))) := by rw [hb, hc1, hc2, hc3, hc4, hc5, hc6]; simp [repF]
  have q2 : b = (pre ++ B1) ++ (B2 ++ (c3 :: (B4 ++ (c5 :: (B6 ++ (x ++ post)))))) := by rw [q1]; simp
  have q3 : b = (pre ++ B1 ++ B2) ++ (c3 :: (B4 ++ (c5 :: (B6 ++ (x ++ post))))) := by rw [q1]; simp
  have q4 : b = (pre ++ B1 ++ B2 ++ [c3]) ++ (B4 ++ (c5 :: (B6 ++ (x ++ post)))) := by rw [q1]; simp
  have q5 : b = (pre ++ B1 ++ B2 ++ [c3] ++ B4) ++ (c5 :: (B6 ++ (x ++ post))) := by rw [q1]; simp
  have q6 : b = (pre ++ B1 ++ B2 ++ [c3] ++ B4 ++ [c5]) ++ (B6 ++ (x ++ post)) := by rw [q1]; simp
  have q7 : b = (pre ++ B1 ++ B2 ++ [c3] ++ B4 ++ [c5] ++ B6) ++ (x ++ post) := by rw [q1]; simp
  have r1 := cPrin_prin pre (B2 ++ (c3 :: (B4 ++ (c5 :: (B6 ++ (x ++ post)))))) n i r g1
  rw [← hc1, ← q1] at r1
  have r2 := cNum_num (pre ++ B1) (c3 :: (B4 ++ (c5 :: (B6 ++ (x ++ post))))) tm 4 lt g2.1 (by omega)
  have p2 : ((pre ++ B1).length : Int) = (pre.length : Int) + (B1.length : Int) := by simp only [List.length_append, List.length_singleton, hl1]; omega
  rw [← hc2, ← q2, p2] at r2
  have r3 := cNum_one (pre ++ B1 ++ B2) (B4 ++ (c5 :: (B6 ++ (x ++ post)))) c3
  have p3 : ((pre ++ B1 ++ B2).length : Int) = (pre.length : Int) + (B1.length : Int) + ((4 : Nat) : Int) := by simp only [List.length_append, List.length_singleton, hl1, hl2]; omega
  rw [← q3, p3] at r3
  have r4 := cNum_num (pre ++ B1 ++ B2 ++ [c3]) (c5 :: (B6 ++ (x ++ post))) ex 4 lt g4.1 (by omega)
  have p4 : ((pre ++ B1 ++ B2 ++ [c3]).length : Int) = (pre.length : Int) + (B1.length : Int) + ((4 : Nat) : Int) + 1 := by simp only [List.length_append, List.length_singleton, hl1, hl2]; omega
  rw [← hc4, ← q4, p4] at r4
  have r5 := cNum_one (pre ++ B1 ++ B2 ++ [c3] ++ B4) (B6 ++ (x ++ post)) c5
  have p5 : ((pre ++ B1 ++ B2 ++ [c3] ++ B4).length : Int) = (pre.length : Int) + (B1.length : Int) + ((4 : Nat) : Int) + 1 + ((4 : Nat) : Int) := by simp only [List.length_append, List.length_singleton, hl1, hl2, hl4]; omega
  rw [← q5, p5] at r5
  have r6 := cNum_num (pre ++ B1 ++ B2 ++ [c3] ++ B4 ++ [c5]) (x ++ post) (x.length : Int) 2 lt g6.1 (by omega)
  have p6 : ((pre ++ B1 ++ B2 ++ [c3] ++ B4 ++ [c5]).length : Int) = (pre.length : Int) + (B1.length : Int) + ((4 : Nat) : Int) + 1 + ((4 : Nat) : Int) + 1 := by simp only [List.length_append, List.length_singleton, hl1, hl2, hl4]; omega
  rw [← hc6, ← q6, p6] at r6
  have r7 := cByt_at (pre ++ B1 ++ B2 ++ [c3] ++ B4 ++ [c5] ++ B6) x post (x.length : Int) g7
  have p7 : ((pre ++ B1 ++ B2 ++ [c3] ++ B4 ++ [c5] ++ B6).length : Int) = (pre.length : Int) + (B1.length : Int) + ((4 : Nat) : Int) + 1 + ((4 : Nat) : Int) + 1 + ((2 : Nat) : Int) := by simp only [List.length_append, List.length_singleton, hl1, hl2, hl4, hl6]; omega
  rw [← q7, p7] at r7
  rw [← hb]
  unfold repR
  simp only [r1, r2, r3, r4, r5, r6, r7, hu3, hu5]
/-- What is read of the fields. -/
def repRr (b : List UInt8) (lt : Bool) (s0 : Int × Bool) : (ByteArray × ByteArray × ByteArray) × Int × Int × Int × Int × Int × List UInt8 × Bool :=
  let y1 := rPrin b s0
  let y2 := rNum b 4 lt y1.2
  let y3 := rNum b 1 false y2.2
  let y4 := rNum b 4 lt y3.2
  let y5 := rNum b 1 false y4.2
  let y6 := rNum b 2 lt y5.2
  let y7 := rByt b y6.1 y6.2
  (y1.1, y2.1, y3.1, y4.1, y5.1, y6.1, y7.1, y7.2.2)
theorem repRr_ok (pre post : List UInt8) (lt : Bool) (n : ByteArray) (i : ByteArray) (r : ByteArray) (tm : Int) (ex : Int) (kv : Int) (x : List UInt8) (g1 : validB n i r = true) (g2 : 0 ≤ tm ∧ tm ≤ 4294967295) (g3 : 0 ≤ 1 ∧ 1 ≤ 255) (g4 : 0 ≤ ex ∧ ex ≤ 4294967295) (g5 : 0 ≤ kv ∧ kv ≤ 255) (g6 : 0 ≤ (x.length : Int) ∧ (x.length : Int) ≤ 65535) (g7 : (x.length : Int) = (x.length : Int)) : repRr (pre ++ (repF lt n i r tm ex kv x ++ post)) lt (pre.length, false) = ((n, i, r), tm, 1, ex, kv, (x.length : Int), x, false) := by
  obtain ⟨b, hb⟩ : ∃ b, b = pre ++ (repF lt n i r tm ex kv x ++ post) := ⟨_, rfl⟩
  obtain ⟨B1, hc1⟩ : ∃ B, B = prinB n i r := ⟨_, rfl⟩
  have hl1 : B1.length = (n.size + i.size + r.size + 3) := by rw [hc1]; simp only [prinB_length, numB_length, textB_length]
  obtain ⟨B2, hc2⟩ : ∃ B, B = numB tm 4 lt := ⟨_, rfl⟩
  have hl2 : B2.length = 4 := by rw [hc2]; simp only [prinB_length, numB_length, textB_length]
  obtain ⟨c3, hc3⟩ : ∃ c, c = u8 1 := ⟨_, rfl⟩
  have hu3 : (c3.toNat : Int) = 1 := by rw [hc3, u8_toNat]; omega
  obtain ⟨B4, hc4⟩ : ∃ B, B = numB ex 4 lt := ⟨_, rfl⟩
  have hl4 : B4.length = 4 := by rw [hc4]; simp only [prinB_length, numB_length, textB_length]
  obtain ⟨c5, hc5⟩ : ∃ c, c = u8 kv := ⟨_, rfl⟩
  have hu5 : (c5.toNat : Int) = kv := by rw [hc5, u8_toNat]; omega
  obtain ⟨B6, hc6⟩ : ∃ B, B = numB (x.length : Int) 2 lt := ⟨_, rfl⟩
  have hl6 : B6.length = 2 := by rw [hc6]; simp only [prinB_length, numB_length, textB_length]
  have q1 : b = pre ++ (B1 ++ (B2 ++ (c3 :: (B4 ++ (c5 :: (B6 ++ (x ++ post))))))) := by rw [hb, hc1, hc2, hc3, hc4, hc5, hc6]; simp [repF]
  have q2 : b = (pre ++ B1) ++ (B2 ++ (c3 :: (B4 ++ (c5 :: (B6 ++ (x ++ post)))))) := by rw [q1]; simp
  have q3 : b = (pre ++ B1 ++ B2) ++ (c3 :: (B4 ++ (c5 :: (B6 ++ (x ++ post))))) := by rw [q1]; simp
  have q4 : b = (pre ++ B1 ++ B2 ++ [c3]) ++ (B4 ++ (c5 :: (B6 ++ (x ++ post)))) := by rw [q1]; simp
  have q5 : b = (pre ++ B1 ++ B2 ++ [c3] ++ B4) ++ (c5 :: (B6 ++ (x ++ post))) := by rw [q1]; simp
  have q6 : b = (pre ++ B1 ++ B2 ++ [c3] ++ B4 ++ [c5]) ++ (B6 ++ (x ++ post)) := by rw [q1]; simp
  have q7 : b = (pre ++ B1 ++ B2 ++ [c3] ++ B4 ++ [c5] ++ B6) ++ (x ++ post) := by rw [q1]; simp
  have r1 := rPrin_prin pre (B2 ++ (c3 :: (B4 ++ (c5 :: (B6 ++ (x ++ post)))))) n i r g1
  rw [← hc1, ← q1] at r1
  have r2 := rNum_num (pre ++ B1) (c3 :: (B4 ++ (c5 :: (B6 ++ (x ++ post))))) tm 4 lt g2.1 (by omega)
  have p2 : ((pre ++ B1).length : Int) = (pre.length : Int) + (B1.length : Int) := by simp only [List.length_append, List.length_singleton, hl1]; omega
  rw [← hc2, ← q2, p2] at r2
  have r3 := rNum_one (pre ++ B1 ++ B2) (B4 ++ (c5 :: (B6 ++ (x ++ post)))) c3
  have p3 : ((pre ++ B1 ++ B2).length : Int) = (pre.length : Int) + (B1.length : Int) + ((4 : Nat) : Int) := by simp only [List.length_append, List.length_singleton, hl1, hl2]; omega
  rw [← q3, p3] at r3
  have r4 := rNum_num (pre ++ B1 ++ B2 ++ [c3]) (c5 :: (B6 ++ (x ++ post))) ex 4 lt g4.1 (by omega)
  have p4 : ((pre ++ B1 ++ B2 ++ [c3]).length : Int) = (pre.length : Int) + (B1.length : Int) + ((4 : Nat) : Int) + 1 := by simp only [List.length_append, List.length_singleton, hl1, hl2]; omega
  rw [← hc4, ← q4, p4] at r4
  have r5 := rNum_one (pre ++ B1 ++ B2 ++ [c3] ++ B4) (B6 ++ (x ++ post)) c5
  have p5 : ((pre ++ B1 ++ B2 ++ [c3] ++ B4).length : Int) = (pre.length : Int) + (B1.length : Int) + ((4 : Nat) : Int) + 1 + ((4 : Nat) : Int) := by simp only [List.length_append, List.length_singleton, hl1, hl2, hl4]; omega
  rw [← q5, p5] at r5
  have r6 := rNum_num (pre ++ B1 ++ B2 ++ [c3] ++ B4 ++ [c5]) (x ++ post) (x.length : Int) 2 lt g6.1 (by omega)
  have p6 : ((pre ++ B1 ++ B2 ++ [c3] ++ B4 ++ [c5]).length : Int) = (pre.length : Int) + (B1.length : Int) + ((4 : Nat) : Int) + 1 + ((4 : Nat) : Int) + 1 := by simp only [List.length_append, List.length_singleton, hl1, hl2, hl4]; omega
  rw [← hc6, ← q6, p6] at r6
  have r7 := rByt_at (pre ++ B1 ++ B2 ++ [c3] ++ B4 ++ [c5] ++ B6) x post (x.length : Int) g7
  have p7 : ((pre ++ B1 ++ B2 ++ [c3] ++ B4 ++ [c5] ++ B6).length : Int) = (pre.length : Int) + (B1.length : Int) + ((4 : Nat) : Int) + 1 + ((4 : Nat) : Int) + 1 + ((2 : Nat) : Int) := by simp only [List.length_append, List.length_singleton, hl1, hl2, hl4, hl6]; omega
  rw [← q7, p7] at r7
  rw [← hb]
  unfold repRr
  simp only [r1, r2, r3, r4, r5, r6, r7, hu3, hu5]
/-- These bytes are those of this message. -/
def repIs (b : List UInt8) (lt : Bool) (n i r : ByteArray) (tm ex kv : Int) (x : List UInt8) : Prop := repOk lt n i r tm ex kv x ∧ repB lt n i r tm ex kv x = b
theorem repIs.read {b : List UInt8} {lt : Bool} {n : ByteArray} {i : ByteArray} {r : ByteArray} {tm : Int} {ex : Int} {kv : Int} {x : List UInt8} (h : repIs b lt n i r tm ex kv x) : repR b lt (2, false) = ((n, i, r), tm, 1, ex, kv, (x.length : Int), x, false) := by
  obtain ⟨h1, rfl⟩ := h
  have hc := repChk_ok (repOk_chk h1)
  obtain ⟨c1, c2, c3, c4, c5⟩ := hc
  have := repR_ok (hdB 2 lt) ([]) lt n i r tm ex kv x (c1) (c2) (⟨by decide, by decide⟩) (c3) (c4) (⟨by omega, by omega⟩) (rfl)
  rw [List.append_nil, show ((hdB 2 lt).length : Int) = 2 from rfl] at this
  exact this
theorem repIs.rread {b : List UInt8} {lt : Bool} {n : ByteArray} {i : ByteArray} {r : ByteArray} {tm : Int} {ex : Int} {kv : Int} {x : List UInt8} (h : repIs b lt n i r tm ex kv x) : repRr b lt (2, false) = ((n, i, r), tm, 1, ex, kv, (x.length : Int), x, false) := by
  obtain ⟨h1, rfl⟩ := h
  have hc := repChk_ok (repOk_chk h1)
  obtain ⟨c1, c2, c3, c4, c5⟩ := hc
  have := repRr_ok (hdB 2 lt) ([]) lt n i r tm ex kv x (c1) (c2) (⟨by decide, by decide⟩) (c3) (c4) (⟨by omega, by omega⟩) (rfl)
  rw [List.append_nil, show ((hdB 2 lt).length : Int) = 2 from rfl] at this
  exact this
theorem repIs.hd {b : List UInt8} {lt : Bool} {n : ByteArray} {i : ByteArray} {r : ByteArray} {tm : Int} {ex : Int} {kv : Int} {x : List UInt8} (h : repIs b lt n i r tm ex kv x) : hdIs b [2] = (lt, 0) := by
  obtain ⟨_, rfl⟩ := h
  unfold repB
  exact (hdIs_put (by decide) _ _).trans (if_pos (by decide))
theorem repIs.inj {b : List UInt8} {lt : Bool} {n : ByteArray} {i : ByteArray} {r : ByteArray} {tm : Int} {ex : Int} {kv : Int} {x : List UInt8} {lt' : Bool} {n' : ByteArray} {i' : ByteArray} {r' : ByteArray} {tm' : Int} {ex' : Int} {kv' : Int} {x' : List UInt8} (h : repIs b lt n i r tm ex kv x) (h' : repIs b lt' n' i' r' tm' ex' kv' x') : lt = lt' ∧ n = n' ∧ i = i' ∧ r = r' ∧ tm = tm' ∧ ex = ex' ∧ kv = kv' ∧ x = x' := by
  have e := h.hd.symm.trans h'.hd
  simp only [Prod.mk.injEq, and_true] at e
  subst e
  have := h.read.symm.trans h'.read
  simp only [Prod.mk.injEq] at this
  obtain ⟨⟨a0, b0, d0⟩, a1, a2, a3, a4, a5, a6, _⟩ := this
  exact ⟨rfl, a0, b0, d0, a1, a3, a4, a6⟩
def repZ : AV := .st [.raw (.bool false), .raw (.string ⟨#[]⟩), .raw (.string ⟨#[]⟩), .raw (.string ⟨#[]⟩), .raw (.int .i64 0), .raw (.int .i64 0), .raw (.int .i64 0), .lst 1 []]
def repErr (b : List UInt8) : Int := if (hdIs b [2]).2 = 0 then 100 else (hdIs b [2]).2
/-- What the decoder answers. -/
def repDec (b : List UInt8) (d : AV) : Prop :=
  (∃ lt n i r tm ex kv x, repIs b lt n i r tm ex kv x ∧ d = .tup [repA lt n i r tm ex kv x, .raw (.int .i64 0)]) ∨
  ((∀ lt n i r tm ex kv x, ¬ repIs b lt n i r tm ex kv x) ∧ d = .tup [repZ, .raw (.int .i64 (repErr b))])
theorem repDec.unique {b : List UInt8} {d d' : AV} (h : repDec b d) (h' : repDec b d') : d = d' := by
  rcases h with ⟨lt, n, i, r, tm, ex, kv, x, h1, rfl⟩ | ⟨h1, rfl⟩
  · rcases h' with ⟨lt', n', i', r', tm', ex', kv', x', h2, rfl⟩ | ⟨h2, rfl⟩
    · obtain ⟨rfl, rfl, rfl, rfl, rfl, rfl, rfl, rfl⟩ := h1.inj h2
      rfl
    · exact absurd h1 (h2 _ _ _ _ _ _ _ _)
  · rcases h' with ⟨lt', n', i', r', tm', ex', kv', x', h2, rfl⟩ | ⟨h2, rfl⟩
    · exact absurd h2 (h1 _ _ _ _ _ _ _ _)
    · rfl
theorem repDec.of {b : List UInt8} {lt : Bool} {n : ByteArray} {i : ByteArray} {r : ByteArray} {tm : Int} {ex : Int} {kv : Int} {x : List UInt8} {d : AV} (h : repDec b d) (h1 : repIs b lt n i r tm ex kv x) : d = .tup [repA lt n i r tm ex kv x, .raw (.int .i64 0)] := h.unique (.inl ⟨_, _, _, _, _, _, _, _, h1, rfl⟩)
theorem repZ_st {own : Own} : Weak1 own (.st [.raw (.bool false), .raw (.string ⟨#[]⟩), .raw (.string ⟨#[]⟩), .raw (.string ⟨#[]⟩), .raw (.int .i64 0), .raw (.int .i64 0), .raw (.int .i64 0), .raw (.slice none 0 0)]) own repZ := (Weak1.st (Weak.one (pre := [.raw (.bool false), .raw (.string ⟨#[]⟩), .raw (.string ⟨#[]⟩), .raw (.string ⟨#[]⟩), .raw (.int .i64 0), .raw (.int .i64 0), .raw (.int .i64 0)]) (post := []) (Weak1.nil (wd := 1))))
theorem repZ_weak {own : Own} {e : AV} : Weak1 own (.tup [.st [.raw (.bool false), .raw (.string ⟨#[]⟩), .raw (.string ⟨#[]⟩), .raw (.string ⟨#[]⟩), .raw (.int .i64 0), .raw (.int .i64 0), .raw (.int .i64 0), .raw (.slice none 0 0)], e]) own (.tup [repZ, e]) := Weak1.tup (Weak.one (pre := []) repZ_st)
set_option maxHeartbeats 8000000 in
theorem repEncode_pure (lt : Bool) (n i r : ByteArray) (tm ex kv : Int) (x : List UInt8) (zn : n.size ≤ 100000) (zi : i.size ≤ 100000) (zr : r.size ≤ 100000) (zx : x.length ≤ 100000) :
    PC Tryz.prog 84 [repA lt n i r tm ex kv x] (repE lt n i r tm ex kv x) := by
  refine PC.post ?_
  obtain ⟨b0, e0⟩ : ∃ b, b = hdB 2 lt := ⟨_, rfl⟩
  have l0 : b0.length = 2 := by rw [e0]; rfl
  obtain ⟨b1, e1⟩ : ∃ b, b0 ++ prinB n i r = b := ⟨_, rfl⟩
  have l1 : b1.length = b0.length + (n.size + i.size + r.size + 3) := by rw [← e1, List.length_append] <;> first | rfl | simp only [prinB_length, numB_length, textB_length]
  obtain ⟨b2, e2⟩ : ∃ b, b1 ++ numB tm 4 lt = b := ⟨_, rfl⟩
  have l2 : b2.length = b1.length + 4 := by rw [← e2, List.length_append] <;> first | rfl | simp only [prinB_length, numB_length, textB_length]
  obtain ⟨b3, e3⟩ : ∃ b, b2 ++ [u8 1] = b := ⟨_, rfl⟩
  have l3 : b3.length = b2.length + 1 := by rw [← e3, List.length_append] <;> first | rfl | simp only [prinB_length, numB_length, textB_length]
  obtain ⟨b4, e4⟩ : ∃ b, b3 ++ numB ex 4 lt = b := ⟨_, rfl⟩
  have l4 : b4.length = b3.length + 4 := by rw [← e4, List.length_append] <;> first | rfl | simp only [prinB_length, numB_length, textB_length]
  obtain ⟨b5, e5⟩ : ∃ b, b4 ++ [u8 kv] = b := ⟨_, rfl⟩
  have l5 : b5.length = b4.length + 1 := by rw [← e5, List.length_append] <;> first | rfl | simp only [prinB_length, numB_length, textB_length]
  obtain ⟨b6, e6⟩ : ∃ b, b5 ++ numB (x.length : Int) 2 lt = b := ⟨_, rfl⟩
  have l6 : b6.length = b5.length + 2 := by rw [← e6, List.length_append] <;> first | rfl | simp only [prinB_length, numB_length, textB_length]
  obtain ⟨b7, e7⟩ : ∃ b, b6 ++ x = b := ⟨_, rfl⟩
  have l7 : b7.length = b6.length + x.length := by rw [← e7, List.length_append] <;> first | rfl | simp only [prinB_length, numB_length, textB_length]
  have hfin : repB lt n i r tm ex kv x = b7 := by rw [repB, repF, ← e7, ← e6, ← e5, ← e4, ← e3, ← e2, ← e1, e0]; simp only [List.append_assoc]
  have p1 := PutPrincipal_pure b0 n i r (by omega)
  rw [e1] at p1
  have p2 := PutNumber_pure b1 tm lt (by omega)
  rw [e2] at p2
  have p3 := PutOctet_pure b2 1 (by omega)
  rw [e3] at p3
  have p4 := PutNumber_pure b3 ex lt (by omega)
  rw [e4] at p4
  have p5 := PutOctet_pure b4 kv (by omega)
  rw [e5] at p5
  have p6 := PutShort_pure b5 (x.length : Int) lt (by omega)
  rw [e6] at p6
  have pH := hdPut_pure 2 lt (by decide)
  rw [← e0] at pH
  unfold repA
  refine AC.of_body (M := []) Tryz.func84 rfl (by kernel_rfl) (Nat.le_of_ble_eq_true rfl) ?_; simp only [Tryz.results84, Tryz.ntmps84]
  simp (dsimp := false) only [go_sem, ↓reduceIte, Nat.reduceEqDiff, Nat.reduceLT, Nat.reduceAdd, Nat.reduceSub, Nat.reduceMul, Nat.reduceLeDiff, reduceCtorEq, Int.reduceNeg, Int.reduceToNat, Int.reduceLT, Int.reduceLE, Int.reduceGE, Int.reduceGT, Int.reduceEq]
  refine ACs.pure (Valid_pure n i r (by omega) (by omega) (by omega)) ?_
  rcases Bool.eq_false_or_eq_true (validB n i r) with h0_0 | h0_0
  · simp (dsimp := false) only [go_sem, ↓reduceIte, Nat.reduceEqDiff, Nat.reduceLT, Nat.reduceAdd, Nat.reduceSub, Nat.reduceMul, Nat.reduceLeDiff, reduceCtorEq, Int.reduceNeg, Int.reduceToNat, Int.reduceLT, Int.reduceLE, Int.reduceGE, Int.reduceGT, Int.reduceEq, h0_0]
    refine ACs.pure (outside9_pure tm _) ?_
    by_cases h1_0 : tm < 0 ∨ tm > 4294967295
    · simp (dsimp := false) only [go_sem, ↓reduceIte, Nat.reduceEqDiff, Nat.reduceLT, Nat.reduceAdd, Nat.reduceSub, Nat.reduceMul, Nat.reduceLeDiff, reduceCtorEq, Int.reduceNeg, Int.reduceToNat, Int.reduceLT, Int.reduceLE, Int.reduceGE, Int.reduceGT, Int.reduceEq, h1_0]
      have hC : repChk lt n i r tm ex kv x = 104 := by rw [repChk, if_neg (by simp [h0_0]), if_pos (by omega)]
      refine ⟨noOwn, ?_⟩
      rw [repE, hC, if_neg (by decide)]
      exact Weak1.nil2
    · simp (dsimp := false) only [go_sem, ↓reduceIte, Nat.reduceEqDiff, Nat.reduceLT, Nat.reduceAdd, Nat.reduceSub, Nat.reduceMul, Nat.reduceLeDiff, reduceCtorEq, Int.reduceNeg, Int.reduceToNat, Int.reduceLT, Int.reduceLE, Int.reduceGE, Int.reduceGT, Int.reduceEq, h1_0]
      refine ACs.pure (outside9_pure ex _) ?_
      by_cases h1_1 : ex < 0 ∨ ex > 4294967295
      · simp (dsimp := false) only [go_sem, ↓reduceIte, Nat.reduceEqDiff, Nat.reduceLT, Nat.reduceAdd, Nat.reduceSub, Nat.reduceMul, Nat.reduceLeDiff, reduceCtorEq, Int.reduceNeg, Int.reduceToNat, Int.reduceLT, Int.reduceLE, Int.reduceGE, Int.reduceGT, Int.reduceEq, h1_1]
        have hC : repChk lt n i r tm ex kv x = 104 := by rw [repChk, if_neg (by simp [h0_0]), if_pos (by omega)]
        refine ⟨noOwn, ?_⟩
        rw [repE, hC, if_neg (by decide)]
        exact Weak1.nil2
      · simp (dsimp := false) only [go_sem, ↓reduceIte, Nat.reduceEqDiff, Nat.reduceLT, Nat.reduceAdd, Nat.reduceSub, Nat.reduceMul, Nat.reduceLeDiff, reduceCtorEq, Int.reduceNeg, Int.reduceToNat, Int.reduceLT, Int.reduceLE, Int.reduceGE, Int.reduceGT, Int.reduceEq, h1_1]
        refine ACs.pure (outside9_pure kv _) ?_
        by_cases h1_2 : kv < 0 ∨ kv > 255
        · simp (dsimp := false) only [go_sem, ↓reduceIte, Nat.reduceEqDiff, Nat.reduceLT, Nat.reduceAdd, Nat.reduceSub, Nat.reduceMul, Nat.reduceLeDiff, reduceCtorEq, Int.reduceNeg, Int.reduceToNat, Int.reduceLT, Int.reduceLE, Int.reduceGE, Int.reduceGT, Int.reduceEq, h1_2]
          have hC : repChk lt n i r tm ex kv x = 104 := by rw [repChk, if_neg (by simp [h0_0]), if_pos (by omega)]
          refine ⟨noOwn, ?_⟩
          rw [repE, hC, if_neg (by decide)]
          exact Weak1.nil2
        · simp (dsimp := false) only [go_sem, ↓reduceIte, Nat.reduceEqDiff, Nat.reduceLT, Nat.reduceAdd, Nat.reduceSub, Nat.reduceMul, Nat.reduceLeDiff, reduceCtorEq, Int.reduceNeg, Int.reduceToNat, Int.reduceLT, Int.reduceLE, Int.reduceGE, Int.reduceGT, Int.reduceEq, h1_2]
          by_cases h2_0 : (x.length : Int) > 1012
          · simp (dsimp := false) only [go_sem, ↓reduceIte, Nat.reduceEqDiff, Nat.reduceLT, Nat.reduceAdd, Nat.reduceSub, Nat.reduceMul, Nat.reduceLeDiff, reduceCtorEq, Int.reduceNeg, Int.reduceToNat, Int.reduceLT, Int.reduceLE, Int.reduceGE, Int.reduceGT, Int.reduceEq, h2_0]
            have hC : repChk lt n i r tm ex kv x = 105 := by rw [repChk, if_neg (by simp [h0_0]), if_neg (by omega), if_pos (by first | omega | (simp [h2_0]; done))]
            refine ⟨noOwn, ?_⟩
            rw [repE, hC, if_neg (by decide)]
            exact Weak1.nil2
          · simp (dsimp := false) only [go_sem, ↓reduceIte, Nat.reduceEqDiff, Nat.reduceLT, Nat.reduceAdd, Nat.reduceSub, Nat.reduceMul, Nat.reduceLeDiff, reduceCtorEq, Int.reduceNeg, Int.reduceToNat, Int.reduceLT, Int.reduceLE, Int.reduceGE, Int.reduceGT, Int.reduceEq, h2_0]
            have hC : repChk lt n i r tm ex kv x = 0 := by rw [repChk, if_neg (by simp [h0_0]), if_neg (by omega), if_neg (by omega)]
            (try refine AW.draw (M := []) [.v, .v, .e, .v, .v, .e, .v] mixed (by kernel_rfl) ?_)
            (try simp (dsimp := false) only [go_sem, ↓reduceIte, Nat.reduceEqDiff, Nat.reduceLT, Nat.reduceAdd, Nat.reduceSub, Nat.reduceMul, Nat.reduceLeDiff, reduceCtorEq, Int.reduceNeg, Int.reduceToNat, Int.reduceLT, Int.reduceLE, Int.reduceGE, Int.reduceGT, Int.reduceEq])
            refine ACs.pure pH ?_
            (try simp (dsimp := false) only [go_sem, ↓reduceIte, Nat.reduceEqDiff, Nat.reduceLT, Nat.reduceAdd, Nat.reduceSub, Nat.reduceMul, Nat.reduceLeDiff, reduceCtorEq, Int.reduceNeg, Int.reduceToNat, Int.reduceLT, Int.reduceLE, Int.reduceGE, Int.reduceGT, Int.reduceEq])
            refine ACs.pure p1 ?_
            (try simp (dsimp := false) only [go_sem, ↓reduceIte, Nat.reduceEqDiff, Nat.reduceLT, Nat.reduceAdd, Nat.reduceSub, Nat.reduceMul, Nat.reduceLeDiff, reduceCtorEq, Int.reduceNeg, Int.reduceToNat, Int.reduceLT, Int.reduceLE, Int.reduceGE, Int.reduceGT, Int.reduceEq])
            (try refine AW.draw (M := []) [.v, .v, .v, .v, .v, .e, .e, .v] mixed (by kernel_rfl) ?_)
            (try simp (dsimp := false) only [go_sem, ↓reduceIte, Nat.reduceEqDiff, Nat.reduceLT, Nat.reduceAdd, Nat.reduceSub, Nat.reduceMul, Nat.reduceLeDiff, reduceCtorEq, Int.reduceNeg, Int.reduceToNat, Int.reduceLT, Int.reduceLE, Int.reduceGE, Int.reduceGT, Int.reduceEq])
            refine ACs.pure p2 ?_
            (try simp (dsimp := false) only [go_sem, ↓reduceIte, Nat.reduceEqDiff, Nat.reduceLT, Nat.reduceAdd, Nat.reduceSub, Nat.reduceMul, Nat.reduceLeDiff, reduceCtorEq, Int.reduceNeg, Int.reduceToNat, Int.reduceLT, Int.reduceLE, Int.reduceGE, Int.reduceGT, Int.reduceEq])
            refine ACs.pure p3 ?_
            (try simp (dsimp := false) only [go_sem, ↓reduceIte, Nat.reduceEqDiff, Nat.reduceLT, Nat.reduceAdd, Nat.reduceSub, Nat.reduceMul, Nat.reduceLeDiff, reduceCtorEq, Int.reduceNeg, Int.reduceToNat, Int.reduceLT, Int.reduceLE, Int.reduceGE, Int.reduceGT, Int.reduceEq])
            (try refine AW.draw (M := []) [.v, .v, .v, .v, .v, .e, .v, .v, .e, .v] mixed (by kernel_rfl) ?_)
            (try simp (dsimp := false) only [go_sem, ↓reduceIte, Nat.reduceEqDiff, Nat.reduceLT, Nat.reduceAdd, Nat.reduceSub, Nat.reduceMul, Nat.reduceLeDiff, reduceCtorEq, Int.reduceNeg, Int.reduceToNat, Int.reduceLT, Int.reduceLE, Int.reduceGE, Int.reduceGT, Int.reduceEq])
            refine ACs.pure p4 ?_
            (try simp (dsimp := false) only [go_sem, ↓reduceIte, Nat.reduceEqDiff, Nat.reduceLT, Nat.reduceAdd, Nat.reduceSub, Nat.reduceMul, Nat.reduceLeDiff, reduceCtorEq, Int.reduceNeg, Int.reduceToNat, Int.reduceLT, Int.reduceLE, Int.reduceGE, Int.reduceGT, Int.reduceEq])
            refine ACs.pure p5 ?_
            (try simp (dsimp := false) only [go_sem, ↓reduceIte, Nat.reduceEqDiff, Nat.reduceLT, Nat.reduceAdd, Nat.reduceSub, Nat.reduceMul, Nat.reduceLeDiff, reduceCtorEq, Int.reduceNeg, Int.reduceToNat, Int.reduceLT, Int.reduceLE, Int.reduceGE, Int.reduceGT, Int.reduceEq])
            (try refine AW.draw (M := []) [.v, .v, .v, .v, .v, .v, .e, .v, .v, .e, .v, .v] mixed (by kernel_rfl) ?_)
            (try simp (dsimp := false) only [go_sem, ↓reduceIte, Nat.reduceEqDiff, Nat.reduceLT, Nat.reduceAdd, Nat.reduceSub, Nat.reduceMul, Nat.reduceLeDiff, reduceCtorEq, Int.reduceNeg, Int.reduceToNat, Int.reduceLT, Int.reduceLE, Int.reduceGE, Int.reduceGT, Int.reduceEq])
            refine ACs.of (PutShort_own b5 (x.length : Int) lt (by omega) _ _ ⟨fun h0 => absurd h0 (by rw [e6]; omega), fun k1 c1 hk1 hc1 => ?_⟩)
            rw [e6] at hc1
            simp only [e6]
            (try simp (dsimp := false) only [go_sem, ↓reduceIte, Nat.reduceEqDiff, Nat.reduceLT, Nat.reduceAdd, Nat.reduceSub, Nat.reduceMul, Nat.reduceLeDiff, reduceCtorEq, Int.reduceNeg, Int.reduceToNat, Int.reduceLT, Int.reduceLE, Int.reduceGE, Int.reduceGT, Int.reduceEq])
            have hcs : b6.map byteA ++ x.map byteA = b7.map byteA := by rw [← e7, List.map_append]
            simp (dsimp := false) only [go_sem, ↓reduceIte, Nat.reduceEqDiff, Nat.reduceLT, Nat.reduceAdd, Nat.reduceSub, Nat.reduceMul, Nat.reduceLeDiff, reduceCtorEq, Int.reduceNeg, Int.reduceToNat, Int.reduceLT, Int.reduceLE, Int.reduceGE, Int.reduceGT, Int.reduceEq, flat_byte, hcs]
            refine ⟨okA_bytes x, by omega, by omega, fun k2 c2 hk2 hc2 => ?_⟩
            have hm1 := fun o o' => Own.set_move hk1 k2 o o'
            rw [hm1]
            rw [repE, hC, if_pos rfl, hfin]
            exact ⟨_, Weak1.tup (Weak.one (pre := []) (rowW _ k2 c2 c2 _ b7 [] (by rw [List.append_nil]; exact Own.set_same _ _ _) (by omega) (by omega) (by omega)))⟩
  · simp (dsimp := false) only [go_sem, ↓reduceIte, Nat.reduceEqDiff, Nat.reduceLT, Nat.reduceAdd, Nat.reduceSub, Nat.reduceMul, Nat.reduceLeDiff, reduceCtorEq, Int.reduceNeg, Int.reduceToNat, Int.reduceLT, Int.reduceLE, Int.reduceGE, Int.reduceGT, Int.reduceEq, h0_0]
    have hC : repChk lt n i r tm ex kv x = 103 := by rw [repChk, if_pos (by simp [h0_0])]
    refine ⟨noOwn, ?_⟩
    rw [repE, hC, if_neg (by decide)]
    exact Weak1.nil2
set_option maxHeartbeats 8000000 in
theorem rrepEncode_pure (lt : Bool) (n i r : ByteArray) (tm ex kv : Int) (x : List UInt8) (zn : n.size ≤ 100000) (zi : i.size ≤ 100000) (zr : r.size ≤ 100000) (zx : x.length ≤ 100000) :
    PC Tryz.prog 9 [repA lt n i r tm ex kv x] (repE lt n i r tm ex kv x) := by
  refine PC.post ?_
  obtain ⟨b0, e0⟩ : ∃ b, b = hdB 2 lt := ⟨_, rfl⟩
  have l0 : b0.length = 2 := by rw [e0]; rfl
  obtain ⟨b1, e1⟩ : ∃ b, b0 ++ prinB n i r = b := ⟨_, rfl⟩
  have l1 : b1.length = b0.length + (n.size + i.size + r.size + 3) := by rw [← e1, List.length_append] <;> first | rfl | simp only [prinB_length, numB_length, textB_length]
  obtain ⟨b2, e2⟩ : ∃ b, b1 ++ numB tm 4 lt = b := ⟨_, rfl⟩
  have l2 : b2.length = b1.length + 4 := by rw [← e2, List.length_append] <;> first | rfl | simp only [prinB_length, numB_length, textB_length]
  obtain ⟨b3, e3⟩ : ∃ b, b2 ++ [u8 1] = b := ⟨_, rfl⟩
  have l3 : b3.length = b2.length + 1 := by rw [← e3, List.length_append] <;> first | rfl | simp only [prinB_length, numB_length, textB_length]
  obtain ⟨b4, e4⟩ : ∃ b, b3 ++ numB ex 4 lt = b := ⟨_, rfl⟩
  have l4 : b4.length = b3.length + 4 := by rw [← e4, List.length_append] <;> first | rfl | simp only [prinB_length, numB_length, textB_length]
  obtain ⟨b5, e5⟩ : ∃ b, b4 ++ [u8 kv] = b := ⟨_, rfl⟩
  have l5 : b5.length = b4.length + 1 := by rw [← e5, List.length_append] <;> first | rfl | simp only [prinB_length, numB_length, textB_length]
  obtain ⟨b6, e6⟩ : ∃ b, b5 ++ numB (x.length : Int) 2 lt = b := ⟨_, rfl⟩
  have l6 : b6.length = b5.length + 2 := by rw [← e6, List.length_append] <;> first | rfl | simp only [prinB_length, numB_length, textB_length]
  obtain ⟨b7, e7⟩ : ∃ b, b6 ++ x = b := ⟨_, rfl⟩
  have l7 : b7.length = b6.length + x.length := by rw [← e7, List.length_append] <;> first | rfl | simp only [prinB_length, numB_length, textB_length]
  have hfin : repB lt n i r tm ex kv x = b7 := by rw [repB, repF, ← e7, ← e6, ← e5, ← e4, ← e3, ← e2, ← e1, e0]; simp only [List.append_assoc]
  have p1 := rPutPrincipal_pure b0 n i r (by omega)
  rw [e1] at p1
  have p2 := rPutNumber_pure b1 tm lt (by omega)
  rw [e2] at p2
  have p3 := rPutOctet_pure b2 1 (by omega)
  rw [e3] at p3
  have p4 := rPutNumber_pure b3 ex lt (by omega)
  rw [e4] at p4
  have p5 := rPutOctet_pure b4 kv (by omega)
  rw [e5] at p5
  have p6 := rPutShort_pure b5 (x.length : Int) lt (by omega)
  rw [e6] at p6
  have pH := rhdPut_pure 2 lt (by decide)
  rw [← e0] at pH
  unfold repA
  refine AC.of_body (M := []) Tryz.func9 rfl (by kernel_rfl) (Nat.le_of_ble_eq_true rfl) ?_; simp only [Tryz.results9, Tryz.ntmps9]
  simp (dsimp := false) only [go_sem, ↓reduceIte, Nat.reduceEqDiff, Nat.reduceLT, Nat.reduceAdd, Nat.reduceSub, Nat.reduceMul, Nat.reduceLeDiff, reduceCtorEq, Int.reduceNeg, Int.reduceToNat, Int.reduceLT, Int.reduceLE, Int.reduceGE, Int.reduceGT, Int.reduceEq]
  refine ACs.pure (rValid_pure n i r (by omega) (by omega) (by omega)) ?_
  rcases Bool.eq_false_or_eq_true (validB n i r) with h0_0 | h0_0
  · simp (dsimp := false) only [go_sem, ↓reduceIte, Nat.reduceEqDiff, Nat.reduceLT, Nat.reduceAdd, Nat.reduceSub, Nat.reduceMul, Nat.reduceLeDiff, reduceCtorEq, Int.reduceNeg, Int.reduceToNat, Int.reduceLT, Int.reduceLE, Int.reduceGE, Int.reduceGT, Int.reduceEq, h0_0]
    refine ACs.pure (within9_pure tm _) ?_
    by_cases h1_0 : tm ≥ 0 ∧ tm ≤ 4294967295
    rotate_left
    · simp (dsimp := false) only [go_sem, ↓reduceIte, Nat.reduceEqDiff, Nat.reduceLT, Nat.reduceAdd, Nat.reduceSub, Nat.reduceMul, Nat.reduceLeDiff, reduceCtorEq, Int.reduceNeg, Int.reduceToNat, Int.reduceLT, Int.reduceLE, Int.reduceGE, Int.reduceGT, Int.reduceEq, h1_0]
      have hC : repChk lt n i r tm ex kv x = 104 := by rw [repChk, if_neg (by simp [h0_0]), if_pos (by omega)]
      refine ⟨noOwn, ?_⟩
      rw [repE, hC, if_neg (by decide)]
      exact Weak1.nil2
    · simp (dsimp := false) only [go_sem, ↓reduceIte, Nat.reduceEqDiff, Nat.reduceLT, Nat.reduceAdd, Nat.reduceSub, Nat.reduceMul, Nat.reduceLeDiff, reduceCtorEq, Int.reduceNeg, Int.reduceToNat, Int.reduceLT, Int.reduceLE, Int.reduceGE, Int.reduceGT, Int.reduceEq, h1_0]
      refine ACs.pure (within9_pure ex _) ?_
      by_cases h1_1 : ex ≥ 0 ∧ ex ≤ 4294967295
      rotate_left
      · simp (dsimp := false) only [go_sem, ↓reduceIte, Nat.reduceEqDiff, Nat.reduceLT, Nat.reduceAdd, Nat.reduceSub, Nat.reduceMul, Nat.reduceLeDiff, reduceCtorEq, Int.reduceNeg, Int.reduceToNat, Int.reduceLT, Int.reduceLE, Int.reduceGE, Int.reduceGT, Int.reduceEq, h1_1]
        have hC : repChk lt n i r tm ex kv x = 104 := by rw [repChk, if_neg (by simp [h0_0]), if_pos (by omega)]
        refine ⟨noOwn, ?_⟩
        rw [repE, hC, if_neg (by decide)]
        exact Weak1.nil2
      · simp (dsimp := false) only [go_sem, ↓reduceIte, Nat.reduceEqDiff, Nat.reduceLT, Nat.reduceAdd, Nat.reduceSub, Nat.reduceMul, Nat.reduceLeDiff, reduceCtorEq, Int.reduceNeg, Int.reduceToNat, Int.reduceLT, Int.reduceLE, Int.reduceGE, Int.reduceGT, Int.reduceEq, h1_1]
        refine ACs.pure (within9_pure kv _) ?_
        by_cases h1_2 : kv ≥ 0 ∧ kv ≤ 255
        rotate_left
        · simp (dsimp := false) only [go_sem, ↓reduceIte, Nat.reduceEqDiff, Nat.reduceLT, Nat.reduceAdd, Nat.reduceSub, Nat.reduceMul, Nat.reduceLeDiff, reduceCtorEq, Int.reduceNeg, Int.reduceToNat, Int.reduceLT, Int.reduceLE, Int.reduceGE, Int.reduceGT, Int.reduceEq, h1_2]
          have hC : repChk lt n i r tm ex kv x = 104 := by rw [repChk, if_neg (by simp [h0_0]), if_pos (by omega)]
          refine ⟨noOwn, ?_⟩
          rw [repE, hC, if_neg (by decide)]
          exact Weak1.nil2
        · simp (dsimp := false) only [go_sem, ↓reduceIte, Nat.reduceEqDiff, Nat.reduceLT, Nat.reduceAdd, Nat.reduceSub, Nat.reduceMul, Nat.reduceLeDiff, reduceCtorEq, Int.reduceNeg, Int.reduceToNat, Int.reduceLT, Int.reduceLE, Int.reduceGE, Int.reduceGT, Int.reduceEq, h1_2]
          by_cases h2_0 : (x.length : Int) > 1012
          · simp (dsimp := false) only [go_sem, ↓reduceIte, Nat.reduceEqDiff, Nat.reduceLT, Nat.reduceAdd, Nat.reduceSub, Nat.reduceMul, Nat.reduceLeDiff, reduceCtorEq, Int.reduceNeg, Int.reduceToNat, Int.reduceLT, Int.reduceLE, Int.reduceGE, Int.reduceGT, Int.reduceEq, h2_0]
            have hC : repChk lt n i r tm ex kv x = 105 := by rw [repChk, if_neg (by simp [h0_0]), if_neg (by omega), if_pos (by first | omega | (simp [h2_0]; done))]
            refine ⟨noOwn, ?_⟩
            rw [repE, hC, if_neg (by decide)]
            exact Weak1.nil2
          · simp (dsimp := false) only [go_sem, ↓reduceIte, Nat.reduceEqDiff, Nat.reduceLT, Nat.reduceAdd, Nat.reduceSub, Nat.reduceMul, Nat.reduceLeDiff, reduceCtorEq, Int.reduceNeg, Int.reduceToNat, Int.reduceLT, Int.reduceLE, Int.reduceGE, Int.reduceGT, Int.reduceEq, h2_0]
            have hC : repChk lt n i r tm ex kv x = 0 := by rw [repChk, if_neg (by simp [h0_0]), if_neg (by omega), if_neg (by omega)]
            (try refine AW.draw (M := []) [.v, .v, .e, .v, .v, .e, .v] mixed (by kernel_rfl) ?_)
            (try simp (dsimp := false) only [go_sem, ↓reduceIte, Nat.reduceEqDiff, Nat.reduceLT, Nat.reduceAdd, Nat.reduceSub, Nat.reduceMul, Nat.reduceLeDiff, reduceCtorEq, Int.reduceNeg, Int.reduceToNat, Int.reduceLT, Int.reduceLE, Int.reduceGE, Int.reduceGT, Int.reduceEq])
            refine ACs.pure pH ?_
            (try simp (dsimp := false) only [go_sem, ↓reduceIte, Nat.reduceEqDiff, Nat.reduceLT, Nat.reduceAdd, Nat.reduceSub, Nat.reduceMul, Nat.reduceLeDiff, reduceCtorEq, Int.reduceNeg, Int.reduceToNat, Int.reduceLT, Int.reduceLE, Int.reduceGE, Int.reduceGT, Int.reduceEq])
            refine ACs.pure p1 ?_
            (try simp (dsimp := false) only [go_sem, ↓reduceIte, Nat.reduceEqDiff, Nat.reduceLT, Nat.reduceAdd, Nat.reduceSub, Nat.reduceMul, Nat.reduceLeDiff, reduceCtorEq, Int.reduceNeg, Int.reduceToNat, Int.reduceLT, Int.reduceLE, Int.reduceGE, Int.reduceGT, Int.reduceEq])
            (try refine AW.draw (M := []) [.v, .v, .v, .v, .v, .e, .e, .v] mixed (by kernel_rfl) ?_)
            (try simp (dsimp := false) only [go_sem, ↓reduceIte, Nat.reduceEqDiff, Nat.reduceLT, Nat.reduceAdd, Nat.reduceSub, Nat.reduceMul, Nat.reduceLeDiff, reduceCtorEq, Int.reduceNeg, Int.reduceToNat, Int.reduceLT, Int.reduceLE, Int.reduceGE, Int.reduceGT, Int.reduceEq])
            refine ACs.pure p2 ?_
            (try simp (dsimp := false) only [go_sem, ↓reduceIte, Nat.reduceEqDiff, Nat.reduceLT, Nat.reduceAdd, Nat.reduceSub, Nat.reduceMul, Nat.reduceLeDiff, reduceCtorEq, Int.reduceNeg, Int.reduceToNat, Int.reduceLT, Int.reduceLE, Int.reduceGE, Int.reduceGT, Int.reduceEq])
            refine ACs.pure p3 ?_
            (try simp (dsimp := false) only [go_sem, ↓reduceIte, Nat.reduceEqDiff, Nat.reduceLT, Nat.reduceAdd, Nat.reduceSub, Nat.reduceMul, Nat.reduceLeDiff, reduceCtorEq, Int.reduceNeg, Int.reduceToNat, Int.reduceLT, Int.reduceLE, Int.reduceGE, Int.reduceGT, Int.reduceEq])
            (try refine AW.draw (M := []) [.v, .v, .v, .v, .v, .e, .v, .v, .e, .v] mixed (by kernel_rfl) ?_)
            (try simp (dsimp := false) only [go_sem, ↓reduceIte, Nat.reduceEqDiff, Nat.reduceLT, Nat.reduceAdd, Nat.reduceSub, Nat.reduceMul, Nat.reduceLeDiff, reduceCtorEq, Int.reduceNeg, Int.reduceToNat, Int.reduceLT, Int.reduceLE, Int.reduceGE, Int.reduceGT, Int.reduceEq])
            refine ACs.pure p4 ?_
            (try simp (dsimp := false) only [go_sem, ↓reduceIte, Nat.reduceEqDiff, Nat.reduceLT, Nat.reduceAdd, Nat.reduceSub, Nat.reduceMul, Nat.reduceLeDiff, reduceCtorEq, Int.reduceNeg, Int.reduceToNat, Int.reduceLT, Int.reduceLE, Int.reduceGE, Int.reduceGT, Int.reduceEq])
            refine ACs.pure p5 ?_
            (try simp (dsimp := false) only [go_sem, ↓reduceIte, Nat.reduceEqDiff, Nat.reduceLT, Nat.reduceAdd, Nat.reduceSub, Nat.reduceMul, Nat.reduceLeDiff, reduceCtorEq, Int.reduceNeg, Int.reduceToNat, Int.reduceLT, Int.reduceLE, Int.reduceGE, Int.reduceGT, Int.reduceEq])
            (try refine AW.draw (M := []) [.v, .v, .v, .v, .v, .v, .e, .v, .v, .e, .v, .v] mixed (by kernel_rfl) ?_)
            (try simp (dsimp := false) only [go_sem, ↓reduceIte, Nat.reduceEqDiff, Nat.reduceLT, Nat.reduceAdd, Nat.reduceSub, Nat.reduceMul, Nat.reduceLeDiff, reduceCtorEq, Int.reduceNeg, Int.reduceToNat, Int.reduceLT, Int.reduceLE, Int.reduceGE, Int.reduceGT, Int.reduceEq])
            refine ACs.of (rPutShort_own b5 (x.length : Int) lt (by omega) _ _ ⟨fun h0 => absurd h0 (by rw [e6]; omega), fun k1 c1 hk1 hc1 => ?_⟩)
            rw [e6] at hc1
            simp only [e6]
            (try simp (dsimp := false) only [go_sem, ↓reduceIte, Nat.reduceEqDiff, Nat.reduceLT, Nat.reduceAdd, Nat.reduceSub, Nat.reduceMul, Nat.reduceLeDiff, reduceCtorEq, Int.reduceNeg, Int.reduceToNat, Int.reduceLT, Int.reduceLE, Int.reduceGE, Int.reduceGT, Int.reduceEq])
            have hcs : b6.map byteA ++ x.map byteA = b7.map byteA := by rw [← e7, List.map_append]
            simp (dsimp := false) only [go_sem, ↓reduceIte, Nat.reduceEqDiff, Nat.reduceLT, Nat.reduceAdd, Nat.reduceSub, Nat.reduceMul, Nat.reduceLeDiff, reduceCtorEq, Int.reduceNeg, Int.reduceToNat, Int.reduceLT, Int.reduceLE, Int.reduceGE, Int.reduceGT, Int.reduceEq, flat_byte, hcs]
            refine ⟨okA_bytes x, by omega, by omega, fun k2 c2 hk2 hc2 => ?_⟩
            have hm1 := fun o o' => Own.set_move hk1 k2 o o'
            rw [hm1]
            rw [repE, hC, if_pos rfl, hfin]
            exact ⟨_, Weak1.tup (Weak.one (pre := []) (rowW _ k2 c2 c2 _ b7 [] (by rw [List.append_nil]; exact Own.set_same _ _ _) (by omega) (by omega) (by omega)))⟩
  · simp (dsimp := false) only [go_sem, ↓reduceIte, Nat.reduceEqDiff, Nat.reduceLT, Nat.reduceAdd, Nat.reduceSub, Nat.reduceMul, Nat.reduceLeDiff, reduceCtorEq, Int.reduceNeg, Int.reduceToNat, Int.reduceLT, Int.reduceLE, Int.reduceGE, Int.reduceGT, Int.reduceEq, h0_0]
    have hC : repChk lt n i r tm ex kv x = 103 := by rw [repChk, if_pos (by simp [h0_0])]
    refine ⟨noOwn, ?_⟩
    rw [repE, hC, if_neg (by decide)]
    exact Weak1.nil2
set_option maxHeartbeats 8000000 in
theorem repDecode_pn (b : List UInt8) (hn : b.length ≤ 140737488355000) : PN Tryz.prog 18 [.lst 1 (b.map byteA)] (repDec b) := by
  refine PN.post ?_
  obtain ⟨⟨lt, e⟩, hI⟩ : ∃ x, hdIs b [2] = x := ⟨_, rfl⟩
  by_cases he : e = 0
  rotate_left
  · refine AC.of_body (M := []) Tryz.func18 rfl (by kernel_rfl) (Nat.le_of_ble_eq_true rfl) ?_; simp only [Tryz.results18, Tryz.ntmps18]
    simp (dsimp := false) only [go_sem, ↓reduceIte, Nat.reduceEqDiff, Nat.reduceLT, Nat.reduceAdd, Nat.reduceSub, Nat.reduceMul, Nat.reduceLeDiff, reduceCtorEq, Int.reduceNeg, Int.reduceToNat, Int.reduceLT, Int.reduceLE, Int.reduceGE, Int.reduceGT, Int.reduceEq]
    intro k1 hk1
    refine ACs.of (kdcOpen_own b 2 lt e hn hI _ _ ⟨fun _ => ?_, fun h => absurd h he⟩)
    simp (dsimp := false) only [go_sem, ↓reduceIte, Nat.reduceEqDiff, Nat.reduceLT, Nat.reduceAdd, Nat.reduceSub, Nat.reduceMul, Nat.reduceLeDiff, reduceCtorEq, Int.reduceNeg, Int.reduceToNat, Int.reduceLT, Int.reduceLE, Int.reduceGE, Int.reduceGT, Int.reduceEq, he]
    refine ⟨.tup [repZ, .raw (.int .i64 e)], _, repZ_weak, .inr ⟨fun lt' n' i' r' tm' ex' kv' x' h => ?_, by rw [repErr, hI, if_neg he]⟩⟩
    have := hI.symm.trans h.hd
    simp only [Prod.mk.injEq] at this
    exact he this.2
  · subst he
    have herr : repErr b = 100 := by rw [repErr, hI]; rfl
    have o0 : 0 ≤ ((2 : Int), false).1 ∧ ((2 : Int), false).1 ≤ b.length := ⟨by decide, hdIs_len hI⟩
    obtain ⟨⟨⟨p1_1, p1_2, p1_3⟩, s1⟩, e1⟩ : ∃ x, cPrin b (2, false) = x := ⟨_, rfl⟩
    have o1 : 0 ≤ s1.1 ∧ s1.1 ≤ b.length := by have := cPrin_ok (b := b) (s := (2, false)) o0.1 o0.2; rw [e1] at this; exact this
    have z1 := cPrin_small b (2, false)
    rw [e1] at z1
    simp only at z1
    obtain ⟨x2, e2⟩ : ∃ x, cNum b 4 lt s1 = x := ⟨_, rfl⟩
    have o2 : 0 ≤ x2.2.1 ∧ x2.2.1 ≤ b.length := by rw [← e2]; exact cNum_ok o1.1 o1.2
    obtain ⟨x3, e3⟩ : ∃ x, cNum b 1 false x2.2 = x := ⟨_, rfl⟩
    have o3 : 0 ≤ x3.2.1 ∧ x3.2.1 ≤ b.length := by rw [← e3]; exact cNum_ok o2.1 o2.2
    obtain ⟨x4, e4⟩ : ∃ x, cNum b 4 lt x3.2 = x := ⟨_, rfl⟩
    have o4 : 0 ≤ x4.2.1 ∧ x4.2.1 ≤ b.length := by rw [← e4]; exact cNum_ok o3.1 o3.2
    obtain ⟨x5, e5⟩ : ∃ x, cNum b 1 false x4.2 = x := ⟨_, rfl⟩
    have o5 : 0 ≤ x5.2.1 ∧ x5.2.1 ≤ b.length := by rw [← e5]; exact cNum_ok o4.1 o4.2
    obtain ⟨x6, e6⟩ : ∃ x, cNum b 2 lt x5.2 = x := ⟨_, rfl⟩
    have o6 : 0 ≤ x6.2.1 ∧ x6.2.1 ≤ b.length := by rw [← e6]; exact cNum_ok o5.1 o5.2
    obtain ⟨x7, e7⟩ : ∃ x, cByt b x6.1 x6.2 = x := ⟨_, rfl⟩
    have hp7 : 0 ≤ x6.1 := by rw [← e6]; exact cNum_nn _ _ _ _
    have hq7 : x6.1 ≤ 65535 := by rw [← e6]; exact cNum_le _ _ _ _ (by decide)
    have o7 : 0 ≤ x7.2.1 ∧ x7.2.1 ≤ b.length := by rw [← e7]; exact cByt_ok o6.1 o6.2 hp7
    have zl7 : x7.1.length ≤ 65535 := by rw [← e7]; exact cByt_le _ _ _ () (by omega)
    have hR : repR b lt (2, false) = ((p1_1, p1_2, p1_3), x2.1, x3.1, x4.1, x5.1, x6.1, x7.1, x7.2.2) := by simp only [repR, e1, e2, e3, e4, e5, e6, e7]
    have hE := repEncode_pure lt p1_1 p1_2 p1_3 x2.1 x4.1 x5.1 x7.1 (by omega) (by omega) (by omega) (by omega) 
    unfold repA repE at hE
    have key : ∀ lt' n' i' r' tm' ex' kv' x', repIs b lt' n' i' r' tm' ex' kv' x' → lt' = lt ∧ n' = p1_1 ∧ i' = p1_2 ∧ r' = p1_3 ∧ tm' = x2.1 ∧ ex' = x4.1 ∧ kv' = x5.1 ∧ x' = x7.1 ∧ x7.2.2 = false := fun lt' n' i' r' tm' ex' kv' x' h => by
      have hl : lt' = lt := by have := hI.symm.trans h.hd; simp only [Prod.mk.injEq] at this; exact this.1.symm
      subst hl
      have := h.read.symm.trans hR
      simp only [Prod.mk.injEq] at this
      obtain ⟨⟨a0, b0, d0⟩, a1, a2, a3, a4, a5, a6, j⟩ := this
      exact ⟨rfl, a0, b0, d0, a1, a3, a4, a6, j.symm⟩
    refine AC.of_body (M := []) Tryz.func18 rfl (by kernel_rfl) (Nat.le_of_ble_eq_true rfl) ?_; simp only [Tryz.results18, Tryz.ntmps18]
    simp (dsimp := false) only [go_sem, ↓reduceIte, Nat.reduceEqDiff, Nat.reduceLT, Nat.reduceAdd, Nat.reduceSub, Nat.reduceMul, Nat.reduceLeDiff, reduceCtorEq, Int.reduceNeg, Int.reduceToNat, Int.reduceLT, Int.reduceLE, Int.reduceGE, Int.reduceGT, Int.reduceEq]
    intro k1 hk1
    refine ACs.of (kdcOpen_own b 2 lt 0 hn hI _ _ ⟨fun h => absurd rfl h, fun _ k hk => ?_⟩)
    have n1 := none_ne hk
    have a1 : ∀ (own : Own) o, (own.set k1 o) k = own k := fun own o => Own.set_ne _ _ n1
    have a2 : ∀ (own : Own) o, (own.set k o) k1 = own k1 := fun own o => Own.set_ne _ _ (Ne.symm n1)
    simp (dsimp := false) only [go_sem, ↓reduceIte, Nat.reduceEqDiff, Nat.reduceLT, Nat.reduceAdd, Nat.reduceSub, Nat.reduceMul, Nat.reduceLeDiff, reduceCtorEq, Int.reduceNeg, Int.reduceToNat, Int.reduceLT, Int.reduceLE, Int.reduceGE, Int.reduceGT, Int.reduceEq, a1, a2]
    refine ACs.of (CPrincipal_own b lt (2, false) k _ _ (by simp only [a1, a2, Own.set_same]) hn ?_)
    simp (dsimp := false) only [go_sem, ↓reduceIte, Nat.reduceEqDiff, Nat.reduceLT, Nat.reduceAdd, Nat.reduceSub, Nat.reduceMul, Nat.reduceLeDiff, reduceCtorEq, Int.reduceNeg, Int.reduceToNat, Int.reduceLT, Int.reduceLE, Int.reduceGE, Int.reduceGT, Int.reduceEq, e1, prinA, a1, a2]
    intro k2 hk2
    have n2 := none_ne hk2
    have hk2' := hk2
    rw [Own.set_ne _ _ n2] at hk2'
    have n12 := none_ne hk2'
    have b1 : ∀ (own : Own) o, (own.set k2 o) k = own k := fun own o => Own.set_ne _ _ (Ne.symm n2)
    have b2 : ∀ (own : Own) o, (own.set k o) k2 = own k2 := fun own o => Own.set_ne _ _ n2
    have b3 : ∀ (own : Own) o, (own.set k2 o) k1 = own k1 := fun own o => Own.set_ne _ _ (Ne.symm n12)
    have b4 : ∀ (own : Own) o, (own.set k1 o) k2 = own k2 := fun own o => Own.set_ne _ _ n12
    clear hk2 hk2' hk hk1
    refine ACs.of (CNumber_own b lt s1 k _ _ (by simp only [a1, a2, b1, b2, b3, b4, Own.set_same]) o1.1 o1.2 hn ?_)
    simp (dsimp := false) only [go_sem, ↓reduceIte, Nat.reduceEqDiff, Nat.reduceLT, Nat.reduceAdd, Nat.reduceSub, Nat.reduceMul, Nat.reduceLeDiff, reduceCtorEq, Int.reduceNeg, Int.reduceToNat, Int.reduceLT, Int.reduceLE, Int.reduceGE, Int.reduceGT, Int.reduceEq, e2, a1, a2, b1, b2, b3, b4]
    refine ACs.of (COctet_own b lt x2.2 k _ _ (by simp only [a1, a2, b1, b2, b3, b4, Own.set_same]) o2.1 o2.2 hn ?_)
    simp (dsimp := false) only [go_sem, ↓reduceIte, Nat.reduceEqDiff, Nat.reduceLT, Nat.reduceAdd, Nat.reduceSub, Nat.reduceMul, Nat.reduceLeDiff, reduceCtorEq, Int.reduceNeg, Int.reduceToNat, Int.reduceLT, Int.reduceLE, Int.reduceGE, Int.reduceGT, Int.reduceEq, e3, a1, a2, b1, b2, b3, b4]
    refine ACs.of (CNumber_own b lt x3.2 k _ _ (by simp only [a1, a2, b1, b2, b3, b4, Own.set_same]) o3.1 o3.2 hn ?_)
    simp (dsimp := false) only [go_sem, ↓reduceIte, Nat.reduceEqDiff, Nat.reduceLT, Nat.reduceAdd, Nat.reduceSub, Nat.reduceMul, Nat.reduceLeDiff, reduceCtorEq, Int.reduceNeg, Int.reduceToNat, Int.reduceLT, Int.reduceLE, Int.reduceGE, Int.reduceGT, Int.reduceEq, e4, a1, a2, b1, b2, b3, b4]
    refine ACs.of (COctet_own b lt x4.2 k _ _ (by simp only [a1, a2, b1, b2, b3, b4, Own.set_same]) o4.1 o4.2 hn ?_)
    simp (dsimp := false) only [go_sem, ↓reduceIte, Nat.reduceEqDiff, Nat.reduceLT, Nat.reduceAdd, Nat.reduceSub, Nat.reduceMul, Nat.reduceLeDiff, reduceCtorEq, Int.reduceNeg, Int.reduceToNat, Int.reduceLT, Int.reduceLE, Int.reduceGE, Int.reduceGT, Int.reduceEq, e5, a1, a2, b1, b2, b3, b4]
    refine ACs.of (CShort_own b lt x5.2 k _ _ (by simp only [a1, a2, b1, b2, b3, b4, Own.set_same]) o5.1 o5.2 hn ?_)
    simp (dsimp := false) only [go_sem, ↓reduceIte, Nat.reduceEqDiff, Nat.reduceLT, Nat.reduceAdd, Nat.reduceSub, Nat.reduceMul, Nat.reduceLeDiff, reduceCtorEq, Int.reduceNeg, Int.reduceToNat, Int.reduceLT, Int.reduceLE, Int.reduceGE, Int.reduceGT, Int.reduceEq, e6, a1, a2, b1, b2, b3, b4]
    refine ACs.of (CBytes_own b x6.1 lt x6.2 k _ _ (by simp only [a1, a2, b1, b2, b3, b4, Own.set_same]) o6.1 o6.2 hp7 (by omega) hn ?_)
    simp (dsimp := false) only [go_sem, ↓reduceIte, Nat.reduceEqDiff, Nat.reduceLT, Nat.reduceAdd, Nat.reduceSub, Nat.reduceMul, Nat.reduceLeDiff, reduceCtorEq, Int.reduceNeg, Int.reduceToNat, Int.reduceLT, Int.reduceLE, Int.reduceGE, Int.reduceGT, Int.reduceEq, e7, a1, a2, b1, b2, b3, b4]
    refine ACs.pure hE ?_
    simp (dsimp := false) only [go_sem, ↓reduceIte, Nat.reduceEqDiff, Nat.reduceLT, Nat.reduceAdd, Nat.reduceSub, Nat.reduceMul, Nat.reduceLeDiff, reduceCtorEq, Int.reduceNeg, Int.reduceToNat, Int.reduceLT, Int.reduceLE, Int.reduceGE, Int.reduceGT, Int.reduceEq, a1, a2, b1, b2, b3, b4]
    refine ACs.of (kdcIs_own b lt x7.2 k _ _ (by simp only [a1, a2, b1, b2, b3, b4, Own.set_same]) _ _ ?_)
    rcases Bool.eq_false_or_eq_true x7.2.2 with hb | hb
    · simp (dsimp := false) only [go_sem, ↓reduceIte, Nat.reduceEqDiff, Nat.reduceLT, Nat.reduceAdd, Nat.reduceSub, Nat.reduceMul, Nat.reduceLeDiff, reduceCtorEq, Int.reduceNeg, Int.reduceToNat, Int.reduceLT, Int.reduceLE, Int.reduceGE, Int.reduceGT, Int.reduceEq, hb, a1, a2, b1, b2, b3, b4, Bool.not_true, Bool.not_false, Bool.true_and, Bool.false_and, Bool.and_false, Bool.and_true, decide_true, decide_false, decide_eq_true_eq]
      refine ⟨.tup [repZ, .raw (.int .i64 100)], _, repZ_weak, .inr ⟨fun lt' n' i' r' tm' ex' kv' x' h => ?_, by rw [herr]⟩⟩
      rw [(key _ _ _ _ _ _ _ _ h).2.2.2.2.2.2.2.2] at hb
      cases hb
    by_cases hc : repChk lt p1_1 p1_2 p1_3 x2.1 x4.1 x5.1 x7.1 = 0
    · simp only [hc, if_true]
      by_cases hq : repB lt p1_1 p1_2 p1_3 x2.1 x4.1 x5.1 x7.1 = b
      · simp (dsimp := false) only [go_sem, ↓reduceIte, Nat.reduceEqDiff, Nat.reduceLT, Nat.reduceAdd, Nat.reduceSub, Nat.reduceMul, Nat.reduceLeDiff, reduceCtorEq, Int.reduceNeg, Int.reduceToNat, Int.reduceLT, Int.reduceLE, Int.reduceGE, Int.reduceGT, Int.reduceEq, hb, hc, hq, bytes_eq, a1, a2, b1, b2, b3, b4, Bool.not_true, Bool.not_false, Bool.true_and, Bool.false_and, Bool.and_false, Bool.and_true, decide_true, decide_false, decide_eq_true_eq]
        exact ⟨_, _, Weak1.refl _ _, .inl ⟨_, _, _, _, _, _, _, _, ⟨hc, hq⟩, rfl⟩⟩
      · simp (dsimp := false) only [go_sem, ↓reduceIte, Nat.reduceEqDiff, Nat.reduceLT, Nat.reduceAdd, Nat.reduceSub, Nat.reduceMul, Nat.reduceLeDiff, reduceCtorEq, Int.reduceNeg, Int.reduceToNat, Int.reduceLT, Int.reduceLE, Int.reduceGE, Int.reduceGT, Int.reduceEq, hb, hc, hq, bytes_eq, a1, a2, b1, b2, b3, b4, Bool.not_true, Bool.not_false, Bool.true_and, Bool.false_and, Bool.and_false, Bool.and_true, decide_true, decide_false, decide_eq_true_eq]
        refine ⟨.tup [repZ, .raw (.int .i64 100)], _, repZ_weak, .inr ⟨fun lt' n' i' r' tm' ex' kv' x' h => ?_, by rw [herr]⟩⟩
        obtain ⟨rfl, rfl, rfl, rfl, rfl, rfl, rfl, rfl, _⟩ := key _ _ _ _ _ _ _ _ h
        exact hq h.2
    · simp (dsimp := false) only [go_sem, ↓reduceIte, Nat.reduceEqDiff, Nat.reduceLT, Nat.reduceAdd, Nat.reduceSub, Nat.reduceMul, Nat.reduceLeDiff, reduceCtorEq, Int.reduceNeg, Int.reduceToNat, Int.reduceLT, Int.reduceLE, Int.reduceGE, Int.reduceGT, Int.reduceEq, hb, hc, a1, a2, b1, b2, b3, b4, Bool.not_true, Bool.not_false, Bool.true_and, Bool.false_and, Bool.and_false, Bool.and_true, decide_true, decide_false, decide_eq_true_eq]
      refine ⟨.tup [repZ, .raw (.int .i64 100)], _, repZ_weak, .inr ⟨fun lt' n' i' r' tm' ex' kv' x' h => ?_, by rw [herr]⟩⟩
      obtain ⟨rfl, rfl, rfl, rfl, rfl, rfl, rfl, rfl, _⟩ := key _ _ _ _ _ _ _ _ h
      exact hc (repOk_chk h.1)
end Go.Proofs.YtghnigbihllnmaaGreat.Fn
