/- Requests to a KDC. -/
import Derived.Test.YtghnigbihllnmaaGreatFn36
import Derived.Test.YtghnigbihllnmaaGreatFn31
import Derived.Test.YtghnigbihllnmaaGreatFn28
import Derived.Test.YtghnigbihllnmaaGreatFn21
set_option linter.unusedVariables false
set_option linter.unusedSimpArgs false
namespace Go.Proofs.YtghnigbihllnmaaGreat.Fn
open Go Hl Sp Ty
set_option maxRecDepth 100000
theorem outside9_pure (n m : Int) : PC Tryz.prog 118 [.raw (.int .i64 n), .raw (.int .i64 m)] (.raw (.bool (decide (n < 0 ∨ n > m)))) := by
  refine PC.of_ac ?_
  refine AC.of_body (M := []) Tryz.func118 rfl (by kernel_rfl) (Nat.le_of_ble_eq_true rfl) ?_; simp only [Tryz.results118, Tryz.ntmps118]
  by_cases h : n < 0
  · simp (dsimp := false) only [go_sem, ↓reduceIte, Nat.reduceEqDiff, Nat.reduceLT, Nat.reduceAdd, Nat.reduceSub, Nat.reduceMul, Nat.reduceLeDiff, reduceCtorEq, Int.reduceNeg, Int.reduceToNat, Int.reduceLT, Int.reduceLE, Int.reduceGE, Int.reduceGT, Int.reduceEq, h]
  · simp (dsimp := false) only [go_sem, ↓reduceIte, Nat.reduceEqDiff, Nat.reduceLT, Nat.reduceAdd, Nat.reduceSub, Nat.reduceMul, Nat.reduceLeDiff, reduceCtorEq, Int.reduceNeg, Int.reduceToNat, Int.reduceLT, Int.reduceLE, Int.reduceGE, Int.reduceGT, Int.reduceEq, h]
theorem within9_pure (n m : Int) : PC Tryz.prog 59 [.raw (.int .i64 n), .raw (.int .i64 m)] (.raw (.bool (decide (n ≥ 0 ∧ n ≤ m)))) := by
  refine PC.of_ac ?_
  refine AC.of_body (M := []) Tryz.func59 rfl (by kernel_rfl) (Nat.le_of_ble_eq_true rfl) ?_; simp only [Tryz.results59, Tryz.ntmps59]
  by_cases h : n ≥ 0
  · simp (dsimp := false) only [go_sem, ↓reduceIte, Nat.reduceEqDiff, Nat.reduceLT, Nat.reduceAdd, Nat.reduceSub, Nat.reduceMul, Nat.reduceLeDiff, reduceCtorEq, Int.reduceNeg, Int.reduceToNat, Int.reduceLT, Int.reduceLE, Int.reduceGE, Int.reduceGT, Int.reduceEq, h]
  · simp (dsimp := false) only [go_sem, ↓reduceIte, Nat.reduceEqDiff, Nat.reduceLT, Nat.reduceAdd, Nat.reduceSub, Nat.reduceMul, Nat.reduceLeDiff, reduceCtorEq, Int.reduceNeg, Int.reduceToNat, Int.reduceLT, Int.reduceLE, Int.reduceGE, Int.reduceGT, Int.reduceEq, h]
def reqA (lt : Bool) (n i r : ByteArray) (tm li : Int) (s t : ByteArray) : AV := .st [.raw (.bool lt), .raw (.string n), .raw (.string i), .raw (.string r), .raw (.int .i64 tm), .raw (.int .i64 li), .raw (.string s), .raw (.string t)]
/-- The first error. -/
def reqChk (lt : Bool) (n i r : ByteArray) (tm li : Int) (s t : ByteArray) : Int := if (validB n i r && nameB s && instB t) = false then 103 else if tm < 0 ∨ tm > 4294967295 ∨ li < 0 ∨ li > 255 then 104 else 0
/-- The fields behind the header. -/
def reqF (lt : Bool) (n i r : ByteArray) (tm li : Int) (s t : ByteArray) : List UInt8 := prinB n i r ++ numB tm 4 lt ++ [u8 li] ++ textB s ++ textB t
def reqB (lt : Bool) (n i r : ByteArray) (tm li : Int) (s t : ByteArray) : List UInt8 := hdB 1 lt ++ reqF lt n i r tm li s t
theorem reqF_length (lt : Bool) (n i r : ByteArray) (tm li : Int) (s t : ByteArray) : (reqF lt n i r tm li s t).length = (n.size + i.size + r.size + 3) + 4 + 1 + (s.size + 1) + (t.size + 1) := by
  simp only [reqF, List.length_append, prinB_length, numB_length, textB_length, List.length_singleton] <;> omega
/-- What the encoder answers. -/
def reqE (lt : Bool) (n i r : ByteArray) (tm li : Int) (s t : ByteArray) : AV := .tup [.lst 1 ((if reqChk lt n i r tm li s t = 0 then reqB lt n i r tm li s t else []).map byteA), .raw (.int .i64 (reqChk lt n i r tm li s t))]
theorem reqChk_ok {lt : Bool} {n : ByteArray} {i : ByteArray} {r : ByteArray} {tm : Int} {li : Int} {s : ByteArray} {t : ByteArray} (h : reqChk lt n i r tm li s t = 0) : validB n i r = true ∧ nameB s = true ∧ instB t = true ∧ (0 ≤ tm ∧ tm ≤ 4294967295) ∧ (0 ≤ li ∧ li ≤ 255) := by
  unfold reqChk at h
  split at h
  · cases h
  · rename_i h0
    have h0 : (validB n i r && nameB s && instB t) = true := (Bool.eq_false_or_eq_true _).resolve_right h0
    simp only [Bool.and_eq_true] at h0
    split at h
    · cases h
    · rename_i h1
      exact ⟨h0.1.1, h0.1.2, h0.2, (by omega), (by omega)⟩
/-- Without errors. -/
def reqOk (lt : Bool) (n i r : ByteArray) (tm li : Int) (s t : ByteArray) : Prop := reqChk lt n i r tm li s t = 0
theorem reqOk_chk {lt : Bool} {n : ByteArray} {i : ByteArray} {r : ByteArray} {tm : Int} {li : Int} {s : ByteArray} {t : ByteArray} (h : reqOk lt n i r tm li s t) : reqChk lt n i r tm li s t = 0 := h
/-- What is read of the fields. -/
def reqR (b : List UInt8) (lt : Bool) (s0 : Int × Bool) : (ByteArray × ByteArray × ByteArray) × Int × Int × ByteArray × ByteArray × Bool :=
  let y1 := cPrin b s0
  let y2 := cNum b 4 lt y1.2
  let y3 := cNum b 1 false y2.2
  let y4 := cTxt b y3.2
  let y5 := cTxt b y4.2
  (y1.1, y2.1, y3.1, y4.1, y5.1, y5.2.2)
theorem reqR_ok (pre post : List UInt8) (lt : Bool) (n : ByteArray) (i : ByteArray) (r : ByteArray) (tm : Int) (li : Int) (s : ByteArray) (t : ByteArray) (g1 : validB n i r = true) (g2 : 0 ≤ tm ∧ tm ≤ 4294967295) (g3 : 0 ≤ li ∧ li ≤ 255) (g4 : plainB s) (g5 : plainB t) : reqR (pre ++ (reqF lt n i r tm li s t ++ post)) lt (pre.length, false) = ((n, i, r), tm, li, s, t, false) := by
  obtain ⟨b, hb⟩ : ∃ b, b = pre ++ (reqF lt n i r tm li s t ++ post) := ⟨_, rfl⟩
  obtain ⟨B1, hc1⟩ : ∃ B, B = prinB n i r := ⟨_, rfl⟩
  have hl1 : B1.length = (n.size + i.size + r.size + 3) := by rw [hc1]; simp only [prinB_length, numB_length, textB_length]
  obtain ⟨B2, hc2⟩ : ∃ B, B = numB tm 4 lt := ⟨_, rfl⟩
  have hl2 : B2.length = 4 := by rw [hc2]; simp only [prinB_length, numB_length, textB_length]
  obtain ⟨c3, hc3⟩ : ∃ c, c = u8 li := ⟨_, rfl⟩
  have hu3 : (c3.toNat : Int) = li := by rw [hc3, u8_toNat]; omega
  obtain ⟨B4, hc4⟩ : ∃ B, B = textB s := ⟨_, rfl⟩
  have hl4 : B4.length = (s.size + 1) := by rw [hc4]; simp only [prinB_length, numB_length, textB_length]
  obtain ⟨B5, hc5⟩ : ∃ B, B = textB t := ⟨_, rfl⟩
  have hl5 : B5.length = (t.size + 1) := by rw [hc5]; simp only [prinB_length, numB_length, textB_length]
  have q1 : b = pre ++ (B1 ++ (B2 ++ (c3 :: (B4 ++ (B5 ++ post))))) := by rw [hb, hc1, hc2, hc3, hc4, hc5]; simp [reqF]
  have q2 : b = (pre ++ B1) ++ (B2 ++ (c3 :: (B4 ++ (B5 ++ post)))) := by rw [q1]; simp
  have q3 : b = (pre ++ B1 ++ B2) ++ (c3 :: (B4 ++ (B5 ++ post))) := by rw [q1]; simp
  have q4 : b = (pre ++ B1 ++ B2 ++ [c3]) ++ (B4 ++ (B5 ++ post)) := by rw [q1]; simp
  have q5 : b = (pre ++ B1 ++ B2 ++ [c3] ++ B4) ++ (B5 ++ post) := by rw [q1]; simp
  have r1 := cPrin_prin pre (B2 ++ (c3 :: (B4 ++ (B5 ++ post)))) n i r g1
  rw [← hc1, ← q1] at r1
  have r2 := cNum_num (pre ++ B1) (c3 :: (B4 ++ (B5 ++ post))) tm 4 lt g2.1 (by omega)
  have p2 : ((pre ++ B1).length : Int) = (pre.length : Int) + (B1.length : Int) := by simp only [List.length_append, List.length_singleton, hl1]; omega
  rw [← hc2, ← q2, p2] at r2
  have r3 := cNum_one (pre ++ B1 ++ B2) (B4 ++ (B5 ++ post)) c3
  have p3 : ((pre ++ B1 ++ B2).length : Int) = (pre.length : Int) + (B1.length : Int) + ((4 : Nat) : Int) := by simp only [List.length_append, List.length_singleton, hl1, hl2]; omega
  rw [← q3, p3] at r3
  have r4 := cTxt_text (pre ++ B1 ++ B2 ++ [c3]) (B5 ++ post) s g4
  have p4 : ((pre ++ B1 ++ B2 ++ [c3]).length : Int) = (pre.length : Int) + (B1.length : Int) + ((4 : Nat) : Int) + 1 := by simp only [List.length_append, List.length_singleton, hl1, hl2]; omega
  rw [← hc4, ← q4, p4] at r4
  have r5 := cTxt_text (pre ++ B1 ++ B2 ++ [c3] ++ B4) post t g5
  have p5 : ((pre ++ B1 ++ B2 ++ [c3] ++ B4).length : Int) = (pre.length : Int) + (B1.length : Int) + ((4 : Nat) : Int) + 1 + s.size + 1 := by simp only [List.length_append, List.length_singleton, hl1, hl2, hl4]; omega
  rw [← hc5, ← q5, p5] at r5
  rw [← hb]
  unfold reqR
  simp only [r1, r2, r3, r4, r5, hu3]
/-- What is read of the fields. -/
def reqRr (b : List UInt8) (lt : Bool) (s0 : Int × Bool) : (ByteArray × ByteArray × ByteArray) × Int × Int × ByteArray × ByteArray × Bool :=
  let y1 := rPrin b s0
  let y2 := rNum b 4 lt y1.2
  let y3 := rNum b 1 false y2.2
  let y4 := rTxt b y3.2
  let y5 := rTxt b y4.2
  (y1.1, y2.1, y3.1, y4.1, y5.1, y5.2.2)
theorem reqRr_ok (pre post : List UInt8) (lt : Bool) (n : ByteArray) (i : ByteArray) (r : ByteArray) (tm : Int) (li : Int) (s : ByteArray) (t : ByteArray) (g1 : validB n i r = true) (g2 : 0 ≤ tm ∧ tm ≤ 4294967295) (g3 : 0 ≤ li ∧ li ≤ 255) (g4 : plainB s) (g5 : plainB t) : reqRr (pre ++ (reqF lt n i r tm li s t ++ post)) lt (pre.length, false) = ((n, i, r), tm, li, s, t, false) := by
  obtain ⟨b, hb⟩ : ∃ b, b = pre ++ (reqF lt n i r tm li s t ++ post) := ⟨_, rfl⟩
  obtain ⟨B1, hc1⟩ : ∃ B, B = prinB n i r := ⟨_, rfl⟩
  have hl1 : B1.length = (n.size + i.size + r.size + 3) := by rw [hc1]; simp only [prinB_length, numB_length, textB_length]
  obtain ⟨B2, hc2⟩ : ∃ B, B = numB tm 4 lt := ⟨_, rfl⟩
  have hl2 : B2.length = 4 := by rw [hc2]; simp only [prinB_length, numB_length, textB_length]
  obtain ⟨c3, hc3⟩ : ∃ c, c = u8 li := ⟨_, rfl⟩
  have hu3 : (c3.toNat : Int) = li := by rw [hc3, u8_toNat]; omega
  obtain ⟨B4, hc4⟩ : ∃ B, B = textB s := ⟨_, rfl⟩
  have hl4 : B4.length = (s.size + 1) := by rw [hc4]; simp only [prinB_length, numB_length, textB_length]
  obtain ⟨B5, hc5⟩ : ∃ B, B = textB t := ⟨_, rfl⟩
  have hl5 : B5.length = (t.size + 1) := by rw [hc5]; simp only [prinB_length, numB_length, textB_length]
  have q1 : b = pre ++ (B1 ++ (B2 ++ (c3 :: (B4 ++ (B5 ++ post))))) := by rw [hb, hc1, hc2, hc3, hc4, hc5]; simp [reqF]
  have q2 : b = (pre ++ B1) ++ (B2 ++ (c3 :: (B4 ++ (B5 ++ post)))) := by rw [q1]; simp
  have q3 : b = (pre ++ B1 ++ B2) ++ (c3 :: (B4 ++ (B5 ++ post))) := by rw [q1]; simp
  have q4 : b = (pre ++ B1 ++ B2 ++ [c3]) ++ (B4 ++ (B5 ++ post)) := by rw [q1]; simp
  have q5 : b = (pre ++ B1 ++ B2 ++ [c3] ++ B4) ++ (B5 ++ post) := by rw [q1]; simp
  have r1 := rPrin_prin pre (B2 ++ (c3 :: (B4 ++ (B5 ++ post)))) n i r g1
  rw [← hc1, ← q1] at r1
  have r2 := rNum_num (pre ++ B1) (c3 :: (B4 ++ (B5 ++ post))) tm 4 lt g2.1 (by omega)
  have p2 : ((pre ++ B1).length : Int) = (pre.length : Int) + (B1.length : Int) := by simp only [List.length_append, List.length_singleton, hl1]; omega
  rw [← hc2, ← q2, p2] at r2
  have r3 := rNum_one (pre ++ B1 ++ B2) (B4 ++ (B5 ++ post)) c3
  have p3 : ((pre ++ B1 ++ B2).length : Int) = (pre.length : Int) + (B1.length : Int) + ((4 : Nat) : Int) := by simp only [List.length_append, List.length_singleton, hl1, hl2]; omega
  rw [← q3, p3] at r3
  have r4 := rTxt_text (pre ++ B1 ++ B2 ++ [c3]) (B5 ++ post) s g4
  have p4 : ((pre ++ B1 ++ B2 ++ [c3]).length : Int) = (pre.length : Int) + (B1.length : Int) + ((4 : Nat) : Int) + 1 := by simp only [List.length_append, List.length_singleton, hl1, hl2]; omega
  rw [← hc4, ← q4, p4] at r4
  have r5 := rTxt_text (pre ++ B1 ++ B2 ++ [c3] ++ B4) post t g5
  have p5 : ((pre ++ B1 ++ B2 ++ [c3] ++ B4).length : Int) = (pre.length : Int) + (B1.length : Int) + ((4 : Nat) : Int) + 1 + s.size + 1 := by simp only [List.length_append, List.length_singleton, hl1, hl2, hl4]; omega
  rw [← hc5, ← q5, p5] at r5
  rw [← hb]
  unfold reqRr
  simp only [r1, r2, r3, r4, r5, hu3]
/-- These bytes are those of this message. -/
def reqIs (b : List UInt8) (lt : Bool) (n i r : ByteArray) (tm li : Int) (s t : ByteArray) : Prop := reqOk lt n i r tm li s t ∧ reqB lt n i r tm li s t = b
theorem reqIs.read {b : List UInt8} {lt : Bool} {n : ByteArray} {i : ByteArray} {r : ByteArray} {tm : Int} {li : Int} {s : ByteArray} {t : ByteArray} (h : reqIs b lt n i r tm li s t) : reqR b lt (2, false) = ((n, i, r), tm, li, s, t, false) := by
  obtain ⟨h1, rfl⟩ := h
  have hc := reqChk_ok (reqOk_chk h1)
  obtain ⟨c1, c2, c3, c4, c5⟩ := hc
  have := reqR_ok (hdB 1 lt) ([]) lt n i r tm li s t (c1) (c4) (c5) (nameB_plain c2) (instB_plain c3)
  rw [List.append_nil, show ((hdB 1 lt).length : Int) = 2 from rfl] at this
  exact this
theorem reqIs.rread {b : List UInt8} {lt : Bool} {n : ByteArray} {i : ByteArray} {r : ByteArray} {tm : Int} {li : Int} {s : ByteArray} {t : ByteArray} (h : reqIs b lt n i r tm li s t) : reqRr b lt (2, false) = ((n, i, r), tm, li, s, t, false) := by
  obtain ⟨h1, rfl⟩ := h
  have hc := reqChk_ok (reqOk_chk h1)
  obtain ⟨c1, c2, c3, c4, c5⟩ := hc
  have := reqRr_ok (hdB 1 lt) ([]) lt n i r tm li s t (c1) (c4) (c5) (nameB_plain c2) (instB_plain c3)
  rw [List.append_nil, show ((hdB 1 lt).length : Int) = 2 from rfl] at this
  exact this
theorem reqIs.hd {b : List UInt8} {lt : Bool} {n : ByteArray} {i : ByteArray} {r : ByteArray} {tm : Int} {li : Int} {s : ByteArray} {t : ByteArray} (h : reqIs b lt n i r tm li s t) : hdIs b [1] = (lt, 0) := by
  obtain ⟨_, rfl⟩ := h
  unfold reqB
  exact (hdIs_put (by decide) _ _).trans (if_pos (by decide))
theorem reqIs.inj {b : List UInt8} {lt : Bool} {n : ByteArray} {i : ByteArray} {r : ByteArray} {tm : Int} {li : Int} {s : ByteArray} {t : ByteArray} {lt' : Bool} {n' : ByteArray} {i' : ByteArray} {r' : ByteArray} {tm' : Int} {li' : Int} {s' : ByteArray} {t' : ByteArray} (h : reqIs b lt n i r tm li s t) (h' : reqIs b lt' n' i' r' tm' li' s' t') : lt = lt' ∧ n = n' ∧ i = i' ∧ r = r' ∧ tm = tm' ∧ li = li' ∧ s = s' ∧ t = t' := by
  have e := h.hd.symm.trans h'.hd
  simp only [Prod.mk.injEq, and_true] at e
  subst e
  have := h.read.symm.trans h'.read
  simp only [Prod.mk.injEq] at this
  obtain ⟨⟨a0, b0, d0⟩, a1, a2, a3, a4, _⟩ := this
  exact ⟨rfl, a0, b0, d0, a1, a2, a3, a4⟩
def reqZ : AV := .st [.raw (.bool false), .raw (.string ⟨#[]⟩), .raw (.string ⟨#[]⟩), .raw (.string ⟨#[]⟩), .raw (.int .i64 0), .raw (.int .i64 0), .raw (.string ⟨#[]⟩), .raw (.string ⟨#[]⟩)]
def reqErr (b : List UInt8) : Int := if (hdIs b [1]).2 = 0 then 100 else (hdIs b [1]).2
/-- What the decoder answers. -/
def reqDec (b : List UInt8) (d : AV) : Prop :=
  (∃ lt n i r tm li s t, reqIs b lt n i r tm li s t ∧ d = .tup [reqA lt n i r tm li s t, .raw (.int .i64 0)]) ∨
  ((∀ lt n i r tm li s t, ¬ reqIs b lt n i r tm li s t) ∧ d = .tup [reqZ, .raw (.int .i64 (reqErr b))])
theorem reqDec.unique {b : List UInt8} {d d' : AV} (h : reqDec b d) (h' : reqDec b d') : d = d' := by
  rcases h with ⟨lt, n, i, r, tm, li, s, t, h1, rfl⟩ | ⟨h1, rfl⟩
  · rcases h' with ⟨lt', n', i', r', tm', li', s', t', h2, rfl⟩ | ⟨h2, rfl⟩
    · obtain ⟨rfl, rfl, rfl, rfl, rfl, rfl, rfl, rfl⟩ := h1.inj h2
      rfl
    · exact absurd h1 (h2 _ _ _ _ _ _ _ _)
  · rcases h' with ⟨lt', n', i', r', tm', li', s', t', h2, rfl⟩ | ⟨h2, rfl⟩
    · exact absurd h2 (h1 _ _ _ _ _ _ _ _)
    · rfl
theorem reqDec.of {b : List UInt8} {lt : Bool} {n : ByteArray} {i : ByteArray} {r : ByteArray} {tm : Int} {li : Int} {s : ByteArray} {t : ByteArray} {d : AV} (h : reqDec b d) (h1 : reqIs b lt n i r tm li s t) : d = .tup [reqA lt n i r tm li s t, .raw (.int .i64 0)] := h.unique (.inl ⟨_, _, _, _, _, _, _, _, h1, rfl⟩)
set_option maxHeartbeats 8000000 in
theorem reqEncode_pure (lt : Bool) (n i r : ByteArray) (tm li : Int) (s t : ByteArray) (zn : n.size ≤ 100000) (zi : i.size ≤ 100000) (zr : r.size ≤ 100000) (zs : s.size ≤ 100000) (zt : t.size ≤ 100000) :
    PC Tryz.prog 55 [reqA lt n i r tm li s t] (reqE lt n i r tm li s t) := by
  refine PC.post ?_
  obtain ⟨b0, e0⟩ : ∃ b, b = hdB 1 lt := ⟨_, rfl⟩
  have l0 : b0.length = 2 := by rw [e0]; rfl
  obtain ⟨b1, e1⟩ : ∃ b, b0 ++ prinB n i r = b := ⟨_, rfl⟩
  have l1 : b1.length = b0.length + (n.size + i.size + r.size + 3) := by rw [← e1, List.length_append]; first | rfl | simp only [prinB_length, numB_length, textB_length]
  obtain ⟨b2, e2⟩ : ∃ b, b1 ++ numB tm 4 lt = b := ⟨_, rfl⟩
  have l2 : b2.length = b1.length + 4 := by rw [← e2, List.length_append]; first | rfl | simp only [prinB_length, numB_length, textB_length]
  obtain ⟨b3, e3⟩ : ∃ b, b2 ++ [u8 li] = b := ⟨_, rfl⟩
  have l3 : b3.length = b2.length + 1 := by rw [← e3, List.length_append]; first | rfl | simp only [prinB_length, numB_length, textB_length]
  obtain ⟨b4, e4⟩ : ∃ b, b3 ++ textB s = b := ⟨_, rfl⟩
  have l4 : b4.length = b3.length + (s.size + 1) := by rw [← e4, List.length_append]; first | rfl | simp only [prinB_length, numB_length, textB_length]
  obtain ⟨b5, e5⟩ : ∃ b, b4 ++ textB t = b := ⟨_, rfl⟩
  have l5 : b5.length = b4.length + (t.size + 1) := by rw [← e5, List.length_append]; first | rfl | simp only [prinB_length, numB_length, textB_length]
  have hfin : reqB lt n i r tm li s t = b5 := by rw [reqB, reqF, ← e5, ← e4, ← e3, ← e2, ← e1, e0]; simp only [List.append_assoc]
  have p1 := PutPrincipal_pure b0 n i r (by omega)
  rw [e1] at p1
  have p2 := PutNumber_pure b1 tm lt (by omega)
  rw [e2] at p2
  have p3 := PutOctet_pure b2 li (by omega)
  rw [e3] at p3
  have p4 := PutText_pure b3 s (by omega)
  rw [e4] at p4
  have p5 := PutText_pure b4 t (by omega)
  rw [e5] at p5
  have pH := hdPut_pure 1 lt (by decide)
  rw [← e0] at pH
  unfold reqA
  refine AC.of_body (M := []) Tryz.func55 rfl (by kernel_rfl) (Nat.le_of_ble_eq_true rfl) ?_; simp only [Tryz.results55, Tryz.ntmps55]
  simp (dsimp := false) only [go_sem, ↓reduceIte, Nat.reduceEqDiff, Nat.reduceLT, Nat.reduceAdd, Nat.reduceSub, Nat.reduceMul, Nat.reduceLeDiff, reduceCtorEq, Int.reduceNeg, Int.reduceToNat, Int.reduceLT, Int.reduceLE, Int.reduceGE, Int.reduceGT, Int.reduceEq]
  refine ACs.pure (Valid_pure n i r (by omega) (by omega) (by omega)) ?_
  rcases Bool.eq_false_or_eq_true (validB n i r) with h0_0 | h0_0
  · simp (dsimp := false) only [go_sem, ↓reduceIte, Nat.reduceEqDiff, Nat.reduceLT, Nat.reduceAdd, Nat.reduceSub, Nat.reduceMul, Nat.reduceLeDiff, reduceCtorEq, Int.reduceNeg, Int.reduceToNat, Int.reduceLT, Int.reduceLE, Int.reduceGE, Int.reduceGT, Int.reduceEq, h0_0]
    refine ACs.pure (ValidName_pure s (by omega)) ?_
    rcases Bool.eq_false_or_eq_true (nameB s) with h0_1 | h0_1
    · simp (dsimp := false) only [go_sem, ↓reduceIte, Nat.reduceEqDiff, Nat.reduceLT, Nat.reduceAdd, Nat.reduceSub, Nat.reduceMul, Nat.reduceLeDiff, reduceCtorEq, Int.reduceNeg, Int.reduceToNat, Int.reduceLT, Int.reduceLE, Int.reduceGE, Int.reduceGT, Int.reduceEq, h0_1]
      refine ACs.pure (ValidInstance_pure t (by omega)) ?_
      rcases Bool.eq_false_or_eq_true (instB t) with h0_2 | h0_2
      · simp (dsimp := false) only [go_sem, ↓reduceIte, Nat.reduceEqDiff, Nat.reduceLT, Nat.reduceAdd, Nat.reduceSub, Nat.reduceMul, Nat.reduceLeDiff, reduceCtorEq, Int.reduceNeg, Int.reduceToNat, Int.reduceLT, Int.reduceLE, Int.reduceGE, Int.reduceGT, Int.reduceEq, h0_2]
        refine ACs.pure (outside9_pure tm _) ?_
        by_cases h1_0 : tm < 0 ∨ tm > 4294967295
        · simp (dsimp := false) only [go_sem, ↓reduceIte, Nat.reduceEqDiff, Nat.reduceLT, Nat.reduceAdd, Nat.reduceSub, Nat.reduceMul, Nat.reduceLeDiff, reduceCtorEq, Int.reduceNeg, Int.reduceToNat, Int.reduceLT, Int.reduceLE, Int.reduceGE, Int.reduceGT, Int.reduceEq, h1_0]
          have hC : reqChk lt n i r tm li s t = 104 := by rw [reqChk, if_neg (by simp [h0_0, h0_1, h0_2]), if_pos (by omega)]
          refine ⟨noOwn, ?_⟩
          rw [reqE, hC, if_neg (by decide)]
          exact Weak1.nil2
        · simp (dsimp := false) only [go_sem, ↓reduceIte, Nat.reduceEqDiff, Nat.reduceLT, Nat.reduceAdd, Nat.reduceSub, Nat.reduceMul, Nat.reduceLeDiff, reduceCtorEq, Int.reduceNeg, Int.reduceToNat, Int.reduceLT, Int.reduceLE, Int.reduceGE, Int.reduceGT, Int.reduceEq, h1_0]
          refine ACs.pure (outside9_pure li _) ?_
          by_cases h1_1 : li < 0 ∨ li > 255
          · simp (dsimp := false) only [go_sem, ↓reduceIte, Nat.reduceEqDiff, Nat.reduceLT, Nat.reduceAdd, Nat.reduceSub, Nat.reduceMul, Nat.reduceLeDiff, reduceCtorEq, Int.reduceNeg, Int.reduceToNat, Int.reduceLT, Int.reduceLE, Int.reduceGE, Int.reduceGT, Int.reduceEq, h1_1]
            have hC : reqChk lt n i r tm li s t = 104 := by rw [reqChk, if_neg (by simp [h0_0, h0_1, h0_2]), if_pos (by omega)]
            refine ⟨noOwn, ?_⟩
            rw [reqE, hC, if_neg (by decide)]
            exact Weak1.nil2
          · simp (dsimp := false) only [go_sem, ↓reduceIte, Nat.reduceEqDiff, Nat.reduceLT, Nat.reduceAdd, Nat.reduceSub, Nat.reduceMul, Nat.reduceLeDiff, reduceCtorEq, Int.reduceNeg, Int.reduceToNat, Int.reduceLT, Int.reduceLE, Int.reduceGE, Int.reduceGT, Int.reduceEq, h1_1]
            have hC : reqChk lt n i r tm li s t = 0 := by rw [reqChk, if_neg (by simp [h0_0, h0_1, h0_2]), if_neg (by omega)]
            (try refine AW.draw (M := []) [.v, .v, .e, .v, .v, .e, .v] mixed (by kernel_rfl) ?_)
            (try simp (dsimp := false) only [go_sem, ↓reduceIte, Nat.reduceEqDiff, Nat.reduceLT, Nat.reduceAdd, Nat.reduceSub, Nat.reduceMul, Nat.reduceLeDiff, reduceCtorEq, Int.reduceNeg, Int.reduceToNat, Int.reduceLT, Int.reduceLE, Int.reduceGE, Int.reduceGT, Int.reduceEq])
            refine ACs.pure pH ?_
            (try simp (dsimp := false) only [go_sem, ↓reduceIte, Nat.reduceEqDiff, Nat.reduceLT, Nat.reduceAdd, Nat.reduceSub, Nat.reduceMul, Nat.reduceLeDiff, reduceCtorEq, Int.reduceNeg, Int.reduceToNat, Int.reduceLT, Int.reduceLE, Int.reduceGE, Int.reduceGT, Int.reduceEq])
            refine ACs.pure p1 ?_
            (try simp (dsimp := false) only [go_sem, ↓reduceIte, Nat.reduceEqDiff, Nat.reduceLT, Nat.reduceAdd, Nat.reduceSub, Nat.reduceMul, Nat.reduceLeDiff, reduceCtorEq, Int.reduceNeg, Int.reduceToNat, Int.reduceLT, Int.reduceLE, Int.reduceGE, Int.reduceGT, Int.reduceEq])
            (try refine AW.draw (M := []) [.v, .v, .v, .v, .v, .e, .v, .v, .e, .v] mixed (by kernel_rfl) ?_)
            (try simp (dsimp := false) only [go_sem, ↓reduceIte, Nat.reduceEqDiff, Nat.reduceLT, Nat.reduceAdd, Nat.reduceSub, Nat.reduceMul, Nat.reduceLeDiff, reduceCtorEq, Int.reduceNeg, Int.reduceToNat, Int.reduceLT, Int.reduceLE, Int.reduceGE, Int.reduceGT, Int.reduceEq])
            refine ACs.pure p2 ?_
            (try simp (dsimp := false) only [go_sem, ↓reduceIte, Nat.reduceEqDiff, Nat.reduceLT, Nat.reduceAdd, Nat.reduceSub, Nat.reduceMul, Nat.reduceLeDiff, reduceCtorEq, Int.reduceNeg, Int.reduceToNat, Int.reduceLT, Int.reduceLE, Int.reduceGE, Int.reduceGT, Int.reduceEq])
            refine ACs.pure p3 ?_
            (try simp (dsimp := false) only [go_sem, ↓reduceIte, Nat.reduceEqDiff, Nat.reduceLT, Nat.reduceAdd, Nat.reduceSub, Nat.reduceMul, Nat.reduceLeDiff, reduceCtorEq, Int.reduceNeg, Int.reduceToNat, Int.reduceLT, Int.reduceLE, Int.reduceGE, Int.reduceGT, Int.reduceEq])
            (try refine AW.draw (M := []) [.v, .v, .v, .e, .v, .v, .e, .v, .v] mixed (by kernel_rfl) ?_)
            (try simp (dsimp := false) only [go_sem, ↓reduceIte, Nat.reduceEqDiff, Nat.reduceLT, Nat.reduceAdd, Nat.reduceSub, Nat.reduceMul, Nat.reduceLeDiff, reduceCtorEq, Int.reduceNeg, Int.reduceToNat, Int.reduceLT, Int.reduceLE, Int.reduceGE, Int.reduceGT, Int.reduceEq])
            refine ACs.pure p4 ?_
            (try simp (dsimp := false) only [go_sem, ↓reduceIte, Nat.reduceEqDiff, Nat.reduceLT, Nat.reduceAdd, Nat.reduceSub, Nat.reduceMul, Nat.reduceLeDiff, reduceCtorEq, Int.reduceNeg, Int.reduceToNat, Int.reduceLT, Int.reduceLE, Int.reduceGE, Int.reduceGT, Int.reduceEq])
            refine ACs.pure p5 ?_
            (try simp (dsimp := false) only [go_sem, ↓reduceIte, Nat.reduceEqDiff, Nat.reduceLT, Nat.reduceAdd, Nat.reduceSub, Nat.reduceMul, Nat.reduceLeDiff, reduceCtorEq, Int.reduceNeg, Int.reduceToNat, Int.reduceLT, Int.reduceLE, Int.reduceGE, Int.reduceGT, Int.reduceEq])
            rw [reqE, hC, if_pos rfl, hfin]
            exact ⟨_, Weak1.refl _ _⟩
      · simp (dsimp := false) only [go_sem, ↓reduceIte, Nat.reduceEqDiff, Nat.reduceLT, Nat.reduceAdd, Nat.reduceSub, Nat.reduceMul, Nat.reduceLeDiff, reduceCtorEq, Int.reduceNeg, Int.reduceToNat, Int.reduceLT, Int.reduceLE, Int.reduceGE, Int.reduceGT, Int.reduceEq, h0_2]
        have hC : reqChk lt n i r tm li s t = 103 := by rw [reqChk, if_pos (by simp [h0_2])]
        refine ⟨noOwn, ?_⟩
        rw [reqE, hC, if_neg (by decide)]
        exact Weak1.nil2
    · simp (dsimp := false) only [go_sem, ↓reduceIte, Nat.reduceEqDiff, Nat.reduceLT, Nat.reduceAdd, Nat.reduceSub, Nat.reduceMul, Nat.reduceLeDiff, reduceCtorEq, Int.reduceNeg, Int.reduceToNat, Int.reduceLT, Int.reduceLE, Int.reduceGE, Int.reduceGT, Int.reduceEq, h0_1]
      have hC : reqChk lt n i r tm li s t = 103 := by rw [reqChk, if_pos (by simp [h0_1])]
      refine ⟨noOwn, ?_⟩
      rw [reqE, hC, if_neg (by decide)]
      exact Weak1.nil2
  · simp (dsimp := false) only [go_sem, ↓reduceIte, Nat.reduceEqDiff, Nat.reduceLT, Nat.reduceAdd, Nat.reduceSub, Nat.reduceMul, Nat.reduceLeDiff, reduceCtorEq, Int.reduceNeg, Int.reduceToNat, Int.reduceLT, Int.reduceLE, Int.reduceGE, Int.reduceGT, Int.reduceEq, h0_0]
    have hC : reqChk lt n i r tm li s t = 103 := by rw [reqChk, if_pos (by simp [h0_0])]
    refine ⟨noOwn, ?_⟩
    rw [reqE, hC, if_neg (by decide)]
    exact Weak1.nil2
set_option maxHeartbeats 8000000 in
theorem rreqEncode_pure (lt : Bool) (n i r : ByteArray) (tm li : Int) (s t : ByteArray) (zn : n.size ≤ 100000) (zi : i.size ≤ 100000) (zr : r.size ≤ 100000) (zs : s.size ≤ 100000) (zt : t.size ≤ 100000) :
    PC Tryz.prog 7 [reqA lt n i r tm li s t] (reqE lt n i r tm li s t) := by
  refine PC.post ?_
  obtain ⟨b0, e0⟩ : ∃ b, b = hdB 1 lt := ⟨_, rfl⟩
  have l0 : b0.length = 2 := by rw [e0]; rfl
  obtain ⟨b1, e1⟩ : ∃ b, b0 ++ prinB n i r = b := ⟨_, rfl⟩
  have l1 : b1.length = b0.length + (n.size + i.size + r.size + 3) := by rw [← e1, List.length_append]; first | rfl | simp only [prinB_length, numB_length, textB_length]
  obtain ⟨b2, e2⟩ : ∃ b, b1 ++ numB tm 4 lt = b := ⟨_, rfl⟩
  have l2 : b2.length = b1.length + 4 := by rw [← e2, List.length_append]; first | rfl | simp only [prinB_length, numB_length, textB_length]
  obtain ⟨b3, e3⟩ : ∃ b, b2 ++ [u8 li] = b := ⟨_, rfl⟩
  have l3 : b3.length = b2.length + 1 := by rw [← e3, List.length_append]; first | rfl | simp only [prinB_length, numB_length, textB_length]
  obtain ⟨b4, e4⟩ : ∃ b, b3 ++ textB s = b := ⟨_, rfl⟩
  have l4 : b4.length = b3.length + (s.size + 1) := by rw [← e4, List.length_append]; first | rfl | simp only [prinB_length, numB_length, textB_length]
  obtain ⟨b5, e5⟩ : ∃ b, b4 ++ textB t = b := ⟨_, rfl⟩
  have l5 : b5.length = b4.length + (t.size + 1) := by rw [← e5, List.length_append]; first | rfl | simp only [prinB_length, numB_length, textB_length]
  have hfin : reqB lt n i r tm li s t = b5 := by rw [reqB, reqF, ← e5, ← e4, ← e3, ← e2, ← e1, e0]; simp only [List.append_assoc]
  have p1 := rPutPrincipal_pure b0 n i r (by omega)
  rw [e1] at p1
  have p2 := rPutNumber_pure b1 tm lt (by omega)
  rw [e2] at p2
  have p3 := rPutOctet_pure b2 li (by omega)
  rw [e3] at p3
  have p4 := rPutText_pure b3 s (by omega)
  rw [e4] at p4
  have p5 := rPutText_pure b4 t (by omega)
  rw [e5] at p5
  have pH := rhdPut_pure 1 lt (by decide)
  rw [← e0] at pH
  unfold reqA
  refine AC.of_body (M := []) Tryz.func7 rfl (by kernel_rfl) (Nat.le_of_ble_eq_true rfl) ?_; simp only [Tryz.results7, Tryz.ntmps7]
  simp (dsimp := false) only [go_sem, ↓reduceIte, Nat.reduceEqDiff, Nat.reduceLT, Nat.reduceAdd, Nat.reduceSub, Nat.reduceMul, Nat.reduceLeDiff, reduceCtorEq, Int.reduceNeg, Int.reduceToNat, Int.reduceLT, Int.reduceLE, Int.reduceGE, Int.reduceGT, Int.reduceEq]
  refine ACs.pure (rValid_pure n i r (by omega) (by omega) (by omega)) ?_
  rcases Bool.eq_false_or_eq_true (validB n i r) with h0_0 | h0_0
  · simp (dsimp := false) only [go_sem, ↓reduceIte, Nat.reduceEqDiff, Nat.reduceLT, Nat.reduceAdd, Nat.reduceSub, Nat.reduceMul, Nat.reduceLeDiff, reduceCtorEq, Int.reduceNeg, Int.reduceToNat, Int.reduceLT, Int.reduceLE, Int.reduceGE, Int.reduceGT, Int.reduceEq, h0_0]
    refine ACs.pure (rValidName_pure s (by omega)) ?_
    rcases Bool.eq_false_or_eq_true (nameB s) with h0_1 | h0_1
    · simp (dsimp := false) only [go_sem, ↓reduceIte, Nat.reduceEqDiff, Nat.reduceLT, Nat.reduceAdd, Nat.reduceSub, Nat.reduceMul, Nat.reduceLeDiff, reduceCtorEq, Int.reduceNeg, Int.reduceToNat, Int.reduceLT, Int.reduceLE, Int.reduceGE, Int.reduceGT, Int.reduceEq, h0_1]
      refine ACs.pure (rValidInstance_pure t (by omega)) ?_
      rcases Bool.eq_false_or_eq_true (instB t) with h0_2 | h0_2
      · simp (dsimp := false) only [go_sem, ↓reduceIte, Nat.reduceEqDiff, Nat.reduceLT, Nat.reduceAdd, Nat.reduceSub, Nat.reduceMul, Nat.reduceLeDiff, reduceCtorEq, Int.reduceNeg, Int.reduceToNat, Int.reduceLT, Int.reduceLE, Int.reduceGE, Int.reduceGT, Int.reduceEq, h0_2]
        refine ACs.pure (within9_pure tm _) ?_
        by_cases h1_0 : tm ≥ 0 ∧ tm ≤ 4294967295
        rotate_left
        · simp (dsimp := false) only [go_sem, ↓reduceIte, Nat.reduceEqDiff, Nat.reduceLT, Nat.reduceAdd, Nat.reduceSub, Nat.reduceMul, Nat.reduceLeDiff, reduceCtorEq, Int.reduceNeg, Int.reduceToNat, Int.reduceLT, Int.reduceLE, Int.reduceGE, Int.reduceGT, Int.reduceEq, h1_0]
          have hC : reqChk lt n i r tm li s t = 104 := by rw [reqChk, if_neg (by simp [h0_0, h0_1, h0_2]), if_pos (by omega)]
          refine ⟨noOwn, ?_⟩
          rw [reqE, hC, if_neg (by decide)]
          exact Weak1.nil2
        · simp (dsimp := false) only [go_sem, ↓reduceIte, Nat.reduceEqDiff, Nat.reduceLT, Nat.reduceAdd, Nat.reduceSub, Nat.reduceMul, Nat.reduceLeDiff, reduceCtorEq, Int.reduceNeg, Int.reduceToNat, Int.reduceLT, Int.reduceLE, Int.reduceGE, Int.reduceGT, Int.reduceEq, h1_0]
          refine ACs.pure (within9_pure li _) ?_
          by_cases h1_1 : li ≥ 0 ∧ li ≤ 255
          rotate_left
          · simp (dsimp := false) only [go_sem, ↓reduceIte, Nat.reduceEqDiff, Nat.reduceLT, Nat.reduceAdd, Nat.reduceSub, Nat.reduceMul, Nat.reduceLeDiff, reduceCtorEq, Int.reduceNeg, Int.reduceToNat, Int.reduceLT, Int.reduceLE, Int.reduceGE, Int.reduceGT, Int.reduceEq, h1_1]
            have hC : reqChk lt n i r tm li s t = 104 := by rw [reqChk, if_neg (by simp [h0_0, h0_1, h0_2]), if_pos (by omega)]
            refine ⟨noOwn, ?_⟩
            rw [reqE, hC, if_neg (by decide)]
            exact Weak1.nil2
          · simp (dsimp := false) only [go_sem, ↓reduceIte, Nat.reduceEqDiff, Nat.reduceLT, Nat.reduceAdd, Nat.reduceSub, Nat.reduceMul, Nat.reduceLeDiff, reduceCtorEq, Int.reduceNeg, Int.reduceToNat, Int.reduceLT, Int.reduceLE, Int.reduceGE, Int.reduceGT, Int.reduceEq, h1_1]
            have hC : reqChk lt n i r tm li s t = 0 := by rw [reqChk, if_neg (by simp [h0_0, h0_1, h0_2]), if_neg (by omega)]
            (try refine AW.draw (M := []) [.v, .v, .e, .v, .v, .e, .v] mixed (by kernel_rfl) ?_)
            (try simp (dsimp := false) only [go_sem, ↓reduceIte, Nat.reduceEqDiff, Nat.reduceLT, Nat.reduceAdd, Nat.reduceSub, Nat.reduceMul, Nat.reduceLeDiff, reduceCtorEq, Int.reduceNeg, Int.reduceToNat, Int.reduceLT, Int.reduceLE, Int.reduceGE, Int.reduceGT, Int.reduceEq])
            refine ACs.pure pH ?_
            (try simp (dsimp := false) only [go_sem, ↓reduceIte, Nat.reduceEqDiff, Nat.reduceLT, Nat.reduceAdd, Nat.reduceSub, Nat.reduceMul, Nat.reduceLeDiff, reduceCtorEq, Int.reduceNeg, Int.reduceToNat, Int.reduceLT, Int.reduceLE, Int.reduceGE, Int.reduceGT, Int.reduceEq])
            refine ACs.pure p1 ?_
            (try simp (dsimp := false) only [go_sem, ↓reduceIte, Nat.reduceEqDiff, Nat.reduceLT, Nat.reduceAdd, Nat.reduceSub, Nat.reduceMul, Nat.reduceLeDiff, reduceCtorEq, Int.reduceNeg, Int.reduceToNat, Int.reduceLT, Int.reduceLE, Int.reduceGE, Int.reduceGT, Int.reduceEq])
            (try refine AW.draw (M := []) [.v, .v, .v, .v, .v, .e, .v, .v, .e, .v] mixed (by kernel_rfl) ?_)
            (try simp (dsimp := false) only [go_sem, ↓reduceIte, Nat.reduceEqDiff, Nat.reduceLT, Nat.reduceAdd, Nat.reduceSub, Nat.reduceMul, Nat.reduceLeDiff, reduceCtorEq, Int.reduceNeg, Int.reduceToNat, Int.reduceLT, Int.reduceLE, Int.reduceGE, Int.reduceGT, Int.reduceEq])
            refine ACs.pure p2 ?_
            (try simp (dsimp := false) only [go_sem, ↓reduceIte, Nat.reduceEqDiff, Nat.reduceLT, Nat.reduceAdd, Nat.reduceSub, Nat.reduceMul, Nat.reduceLeDiff, reduceCtorEq, Int.reduceNeg, Int.reduceToNat, Int.reduceLT, Int.reduceLE, Int.reduceGE, Int.reduceGT, Int.reduceEq])
            refine ACs.pure p3 ?_
            (try simp (dsimp := false) only [go_sem, ↓reduceIte, Nat.reduceEqDiff, Nat.reduceLT, Nat.reduceAdd, Nat.reduceSub, Nat.reduceMul, Nat.reduceLeDiff, reduceCtorEq, Int.reduceNeg, Int.reduceToNat, Int.reduceLT, Int.reduceLE, Int.reduceGE, Int.reduceGT, Int.reduceEq])
            (try refine AW.draw (M := []) [.v, .v, .v, .e, .v, .v, .e, .v, .v] mixed (by kernel_rfl) ?_)
            (try simp (dsimp := false) only [go_sem, ↓reduceIte, Nat.reduceEqDiff, Nat.reduceLT, Nat.reduceAdd, Nat.reduceSub, Nat.reduceMul, Nat.reduceLeDiff, reduceCtorEq, Int.reduceNeg, Int.reduceToNat, Int.reduceLT, Int.reduceLE, Int.reduceGE, Int.reduceGT, Int.reduceEq])
            refine ACs.pure p4 ?_
            (try simp (dsimp := false) only [go_sem, ↓reduceIte, Nat.reduceEqDiff, Nat.reduceLT, Nat.reduceAdd, Nat.reduceSub, Nat.reduceMul, Nat.reduceLeDiff, reduceCtorEq, Int.reduceNeg, Int.reduceToNat, Int.reduceLT, Int.reduceLE, Int.reduceGE, Int.reduceGT, Int.reduceEq])
            refine ACs.pure p5 ?_
            (try simp (dsimp := false) only [go_sem, ↓reduceIte, Nat.reduceEqDiff, Nat.reduceLT, Nat.reduceAdd, Nat.reduceSub, Nat.reduceMul, Nat.reduceLeDiff, reduceCtorEq, Int.reduceNeg, Int.reduceToNat, Int.reduceLT, Int.reduceLE, Int.reduceGE, Int.reduceGT, Int.reduceEq])
            rw [reqE, hC, if_pos rfl, hfin]
            exact ⟨_, Weak1.refl _ _⟩
      · simp (dsimp := false) only [go_sem, ↓reduceIte, Nat.reduceEqDiff, Nat.reduceLT, Nat.reduceAdd, Nat.reduceSub, Nat.reduceMul, Nat.reduceLeDiff, reduceCtorEq, Int.reduceNeg, Int.reduceToNat, Int.reduceLT, Int.reduceLE, Int.reduceGE, Int.reduceGT, Int.reduceEq, h0_2]
        have hC : reqChk lt n i r tm li s t = 103 := by rw [reqChk, if_pos (by simp [h0_2])]
        refine ⟨noOwn, ?_⟩
        rw [reqE, hC, if_neg (by decide)]
        exact Weak1.nil2
    · simp (dsimp := false) only [go_sem, ↓reduceIte, Nat.reduceEqDiff, Nat.reduceLT, Nat.reduceAdd, Nat.reduceSub, Nat.reduceMul, Nat.reduceLeDiff, reduceCtorEq, Int.reduceNeg, Int.reduceToNat, Int.reduceLT, Int.reduceLE, Int.reduceGE, Int.reduceGT, Int.reduceEq, h0_1]
      have hC : reqChk lt n i r tm li s t = 103 := by rw [reqChk, if_pos (by simp [h0_1])]
      refine ⟨noOwn, ?_⟩
      rw [reqE, hC, if_neg (by decide)]
      exact Weak1.nil2
  · simp (dsimp := false) only [go_sem, ↓reduceIte, Nat.reduceEqDiff, Nat.reduceLT, Nat.reduceAdd, Nat.reduceSub, Nat.reduceMul, Nat.reduceLeDiff, reduceCtorEq, Int.reduceNeg, Int.reduceToNat, Int.reduceLT, Int.reduceLE, Int.reduceGE, Int.reduceGT, Int.reduceEq, h0_0]
    have hC : reqChk lt n i r tm li s t = 103 := by rw [reqChk, if_pos (by simp [h0_0])]
    refine ⟨noOwn, ?_⟩
    rw [reqE, hC, if_neg (by decide)]
    exact Weak1.nil2
end Go.Proofs.YtghnigbihllnmaaGreat.Fn
