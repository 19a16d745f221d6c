/- Error replies of a KDC. -/
import Derived.Test.YtghnigbihllnmaaGreatFn39
import Derived.Test.YtghnigbihllnmaaGreatFn36
import Derived.Test.YtghnigbihllnmaaGreatFn31
import Derived.Test.YtghnigbihllnmaaGreatFn28
import Derived.Test.YtghnigbihllnmaaGreatFn21
import Derived.Test.YtghnigbihllnmaaGreatFn16
set_option linter.unusedVariables false
set_option linter.unusedSimpArgs false
namespace Go.Proofs.YtghnigbihllnmaaGreat.Fn
open Go Hl Sp Ty
set_option maxRecDepth 100000
theorem plainB_ix {s : ByteArray} (h : (s.size : Int) ≤ 39) (h' : Lib.indexByte s.data.toList 0 < 0) : plainB s := ⟨by omega, fun hm => by
  have := (ib_neg s.data.toList 0).2 (List.contains_iff_mem.2 hm)
  omega⟩
theorem in_ix (s : ByteArray) (j : Nat) (hj : j < s.size) (h : s.data.toList.getD j 0 = 0) : Lib.indexByte s.data.toList 0 ≥ 0 := by
  refine (ib_neg s.data.toList 0).2 (List.contains_iff_mem.2 ?_)
  have hl : j < s.data.toList.length := hj
  rw [List.getD_eq_getElem?_getD, List.getElem?_eq_getElem hl] at h
  exact h ▸ List.getElem_mem hl
theorem ge_ix (s : ByteArray) (h : Lib.indexByte s.data.toList 0 ≥ 0) : ∃ q < s.size, s.data.toList.getD q 0 = 0 := by
  have hm := List.contains_iff_mem.1 ((ib_neg s.data.toList 0).1 h)
  obtain ⟨q, hq, e⟩ := List.mem_iff_getElem.1 hm
  refine ⟨q, hq, ?_⟩
  rw [List.getD_eq_getElem?_getD, List.getElem?_eq_getElem hq]
  exact e
def errA (lt : Bool) (n i r : ByteArray) (tm cd : Int) (s : ByteArray) : AV := .st [.raw (.bool lt), .raw (.string n), .raw (.string i), .raw (.string r), .raw (.int .i64 tm), .raw (.int .i64 cd), .raw (.string s)]
/-- The first error. -/
def errChk (lt : Bool) (n i r : ByteArray) (tm cd : Int) (s : ByteArray) : Int := if (validB n i r) = false then 103 else if tm < 0 ∨ tm > 4294967295 ∨ cd < 1 ∨ cd > 99 then 104 else if (s.size : Int) > 39 then 105 else if Lib.indexByte s.data.toList 0 ≥ 0 then 100 else 0
/-- The fields behind the header. -/
def errF (lt : Bool) (n i r : ByteArray) (tm cd : Int) (s : ByteArray) : List UInt8 := prinB n i r ++ numB tm 4 lt ++ numB cd 4 lt ++ textB s
def errB (lt : Bool) (n i r : ByteArray) (tm cd : Int) (s : ByteArray) : List UInt8 := hdB 5 lt ++ errF lt n i r tm cd s
theorem errF_length (lt : Bool) (n i r : ByteArray) (tm cd : Int) (s : ByteArray) : (errF lt n i r tm cd s).length = (n.size + i.size + r.size + 3) + 4 + 4 + (s.size + 1) := by
  simp only [errF, List.length_append, prinB_length, numB_length, textB_length, List.length_singleton] <;> omega
/-- What the encoder answers. -/
def errE (lt : Bool) (n i r : ByteArray) (tm cd : Int) (s : ByteArray) : AV := .tup [.lst 1 ((if errChk lt n i r tm cd s = 0 then errB lt n i r tm cd s else []).map byteA), .raw (.int .i64 (errChk lt n i r tm cd s))]
theorem errChk_ok {lt : Bool} {n : ByteArray} {i : ByteArray} {r : ByteArray} {tm : Int} {cd : Int} {s : ByteArray} (h : errChk lt n i r tm cd s = 0) : validB n i r = true ∧ (0 ≤ tm ∧ tm ≤ 4294967295) ∧ (1 ≤ cd ∧ cd ≤ 99) ∧ (s.size : Int) ≤ 39 ∧ Lib.indexByte s.data.toList 0 < 0 := by
  unfold errChk at h
  split at h
  · cases h
  · rename_i h0
    have h0 : (validB n i r) = true := (Bool.eq_false_or_eq_true _).resolve_right h0
    split at h
    · cases h
    · rename_i h1
      split at h
      · cases h
      · rename_i h2
        split at h
        · cases h
        · rename_i h3
          exact ⟨h0, (by omega), (by omega), (by omega), (by omega)⟩
/-- Without errors. -/
def errOk (lt : Bool) (n i r : ByteArray) (tm cd : Int) (s : ByteArray) : Prop := errChk lt n i r tm cd s = 0
theorem errOk_chk {lt : Bool} {n : ByteArray} {i : ByteArray} {r : ByteArray} {tm : Int} {cd : Int} {s : ByteArray} (h : errOk lt n i r tm cd s) : errChk lt n i r tm cd s = 0 := h
/-- What is read of the fields. -/
def errR (b : List UInt8) (lt : Bool) (s0 : Int × Bool) : (ByteArray × ByteArray × ByteArray) × Int × Int × ByteArray × Bool :=
  let y1 := cPrin b s0
  let y2 := cNum b 4 lt y1.2
  let y3 := cNum b 4 lt y2.2
  let y4 := cTxt b y3.2
  (y1.1, y2.1, y3.1, y4.1, y4.2.2)
theorem errR_ok (pre post : List UInt8) (lt : Bool) (n : ByteArray) (i : ByteArray) (r : ByteArray) (tm : Int) (cd : Int) (s : ByteArray) (g1 : validB n i r = true) (g2 : 0 ≤ tm ∧ tm ≤ 4294967295) (g3 : 0 ≤ cd ∧ cd ≤ 4294967295) (g4 : plainB s) : errR (pre ++ (errF lt n i r tm cd s ++ post)) lt (pre.length, false) = ((n, i, r), tm, cd, s, false) := by
  obtain ⟨b, hb⟩ : ∃ b, b = pre ++ (errF lt n i r tm cd s ++ post) := ⟨_, rfl⟩
  obtain ⟨B1, hc1⟩ : ∃ B, B = prinB n i r := ⟨_, rfl⟩
  have hl1 : B1.length = (n.size + i.size + r.size + 3) := by rw [hc1]; simp only [prinB_length, numB_length, textB_length]
  obtain ⟨B2, hc2⟩ : ∃ B, B = numB tm 4 lt := ⟨_, rfl⟩
  have hl2 : B2.length = 4 := by rw [hc2]; simp only [prinB_length, numB_length, textB_length]
  obtain ⟨B3, hc3⟩ : ∃ B, B = numB cd 4 lt := ⟨_, rfl⟩
  have hl3 : B3.length = 4 := by rw [hc3]; simp only [prinB_length, numB_length, textB_length]
  obtain ⟨B4, hc4⟩ : ∃ B, B = textB s := ⟨_, rfl⟩
  have hl4 : B4.length = (s.size + 1) := by rw [hc4]; simp only [prinB_length, numB_length, textB_length]
  have q1 : b = pre ++ (B1 ++ (B2 ++ (B3 ++ (B4 ++ post)))) := by rw [hb, hc1, hc2, hc3, hc4]; simp [errF]
  have q2 : b = (pre ++ B1) ++ (B2 ++ (B3 ++ (B4 ++ post))) := by rw [q1]; simp
  have q3 : b = (pre ++ B1 ++ B2) ++ (B3 ++ (B4 ++ post)) := by rw [q1]; simp
  have q4 : b = (pre ++ B1 ++ B2 ++ B3) ++ (B4 ++ post) := by rw [q1]; simp
  have r1 := cPrin_prin pre (B2 ++ (B3 ++ (B4 ++ post))) n i r g1
  rw [← hc1, ← q1] at r1
  have r2 := cNum_num (pre ++ B1) (B3 ++ (B4 ++ post)) tm 4 lt g2.1 (by omega)
  have p2 : ((pre ++ B1).length : Int) = (pre.length : Int) + (B1.length : Int) := by simp only [List.length_append, List.length_singleton, hl1]; omega
  rw [← hc2, ← q2, p2] at r2
  have r3 := cNum_num (pre ++ B1 ++ B2) (B4 ++ post) cd 4 lt g3.1 (by omega)
  have p3 : ((pre ++ B1 ++ B2).length : Int) = (pre.length : Int) + (B1.length : Int) + ((4 : Nat) : Int) := by simp only [List.length_append, List.length_singleton, hl1, hl2]; omega
  rw [← hc3, ← q3, p3] at r3
  have r4 := cTxt_text (pre ++ B1 ++ B2 ++ B3) post s g4
  have p4 : ((pre ++ B1 ++ B2 ++ B3).length : Int) = (pre.length : Int) + (B1.length : Int) + ((4 : Nat) : Int) + ((4 : Nat) : Int) := by simp only [List.length_append, List.length_singleton, hl1, hl2, hl3]; omega
  rw [← hc4, ← q4, p4] at r4
  rw [← hb]
  unfold errR
  simp only [r1, r2, r3, r4]
/-- What is read of the fields. -/
def errRr (b : List UInt8) (lt : Bool) (s0 : Int × Bool) : (ByteArray × ByteArray × ByteArray) × Int × Int × ByteArray × Bool :=
  let y1 := rPrin b s0
  let y2 := rNum b 4 lt y1.2
  let y3 := rNum b 4 lt y2.2
  let y4 := rTxt b y3.2
  (y1.1, y2.1, y3.1, y4.1, y4.2.2)
theorem errRr_ok (pre post : List UInt8) (lt : Bool) (n : ByteArray) (i : ByteArray) (r : ByteArray) (tm : Int) (cd : Int) (s : ByteArray) (g1 : validB n i r = true) (g2 : 0 ≤ tm ∧ tm ≤ 4294967295) (g3 : 0 ≤ cd ∧ cd ≤ 4294967295) (g4 : plainB s) : errRr (pre ++ (errF lt n i r tm cd s ++ post)) lt (pre.length, false) = ((n, i, r), tm, cd, s, false) := by
  obtain ⟨b, hb⟩ : ∃ b, b = pre ++ (errF lt n i r tm cd s ++ post) := ⟨_, rfl⟩
  obtain ⟨B1, hc1⟩ : ∃ B, B = prinB n i r := ⟨_, rfl⟩
  have hl1 : B1.length = (n.size + i.size + r.size + 3) := by rw [hc1]; simp only [prinB_length, numB_length, textB_length]
  obtain ⟨B2, hc2⟩ : ∃ B, B = numB tm 4 lt := ⟨_, rfl⟩
  have hl2 : B2.length = 4 := by rw [hc2]; simp only [prinB_length, numB_length, textB_length]
  obtain ⟨B3, hc3⟩ : ∃ B, B = numB cd 4 lt := ⟨_, rfl⟩
  have hl3 : B3.length = 4 := by rw [hc3]; simp only [prinB_length, numB_length, textB_length]
  obtain ⟨B4, hc4⟩ : ∃ B, B = textB s := ⟨_, rfl⟩
  have hl4 : B4.length = (s.size + 1) := by rw [hc4]; simp only [prinB_length, numB_length, textB_length]
  have q1 : b = pre ++ (B1 ++ (B2 ++ (B3 ++ (B4 ++ post)))) := by rw [hb, hc1, hc2, hc3, hc4]; simp [errF]
  have q2 : b = (pre ++ B1) ++ (B2 ++ (B3 ++ (B4 ++ post))) := by rw [q1]; simp
  have q3 : b = (pre ++ B1 ++ B2) ++ (B3 ++ (B4 ++ post)) := by rw [q1]; simp
  have q4 : b = (pre ++ B1 ++ B2 ++ B3) ++ (B4 ++ post) := by rw [q1]; simp
  have r1 := rPrin_prin pre (B2 ++ (B3 ++ (B4 ++ post))) n i r g1
  rw [← hc1, ← q1] at r1
  have r2 := rNum_num (pre ++ B1) (B3 ++ (B4 ++ post)) tm 4 lt g2.1 (by omega)
  have p2 : ((pre ++ B1).length : Int) = (pre.length : Int) + (B1.length : Int) := by simp only [List.length_append, List.length_singleton, hl1]; omega
  rw [← hc2, ← q2, p2] at r2
  have r3 := rNum_num (pre ++ B1 ++ B2) (B4 ++ post) cd 4 lt g3.1 (by omega)
  have p3 : ((pre ++ B1 ++ B2).length : Int) = (pre.length : Int) + (B1.length : Int) + ((4 : Nat) : Int) := by simp only [List.length_append, List.length_singleton, hl1, hl2]; omega
  rw [← hc3, ← q3, p3] at r3
  have r4 := rTxt_text (pre ++ B1 ++ B2 ++ B3) post s g4
  have p4 : ((pre ++ B1 ++ B2 ++ B3).length : Int) = (pre.length : Int) + (B1.length : Int) + ((4 : Nat) : Int) + ((4 : Nat) : Int) := by simp only [List.length_append, List.length_singleton, hl1, hl2, hl3]; omega
  rw [← hc4, ← q4, p4] at r4
  rw [← hb]
  unfold errRr
  simp only [r1, r2, r3, r4]
/-- These bytes are those of this message. -/
def errIs (b : List UInt8) (lt : Bool) (n i r : ByteArray) (tm cd : Int) (s : ByteArray) : Prop := errOk lt n i r tm cd s ∧ errB lt n i r tm cd s = b
theorem errIs.read {b : List UInt8} {lt : Bool} {n : ByteArray} {i : ByteArray} {r : ByteArray} {tm : Int} {cd : Int} {s : ByteArray} (h : errIs b lt n i r tm cd s) : errR b lt (2, false) = ((n, i, r), tm, cd, s, false) := by
  obtain ⟨h1, rfl⟩ := h
  have hc := errChk_ok (errOk_chk h1)
  obtain ⟨c1, c2, c3, c4, c5⟩ := hc
  have := errR_ok (hdB 5 lt) ([]) lt n i r tm cd s (c1) (c2) (⟨by omega, by omega⟩) (plainB_ix c4 c5)
  rw [List.append_nil, show ((hdB 5 lt).length : Int) = 2 from rfl] at this
  exact this
theorem errIs.rread {b : List UInt8} {lt : Bool} {n : ByteArray} {i : ByteArray} {r : ByteArray} {tm : Int} {cd : Int} {s : ByteArray} (h : errIs b lt n i r tm cd s) : errRr b lt (2, false) = ((n, i, r), tm, cd, s, false) := by
  obtain ⟨h1, rfl⟩ := h
  have hc := errChk_ok (errOk_chk h1)
  obtain ⟨c1, c2, c3, c4, c5⟩ := hc
  have := errRr_ok (hdB 5 lt) ([]) lt n i r tm cd s (c1) (c2) (⟨by omega, by omega⟩) (plainB_ix c4 c5)
  rw [List.append_nil, show ((hdB 5 lt).length : Int) = 2 from rfl] at this
  exact this
theorem errIs.hd {b : List UInt8} {lt : Bool} {n : ByteArray} {i : ByteArray} {r : ByteArray} {tm : Int} {cd : Int} {s : ByteArray} (h : errIs b lt n i r tm cd s) : hdIs b [5] = (lt, 0) := by
  obtain ⟨_, rfl⟩ := h
  unfold errB
  exact (hdIs_put (by decide) _ _).trans (if_pos (by decide))
theorem errIs.inj {b : List UInt8} {lt : Bool} {n : ByteArray} {i : ByteArray} {r : ByteArray} {tm : Int} {cd : Int} {s : ByteArray} {lt' : Bool} {n' : ByteArray} {i' : ByteArray} {r' : ByteArray} {tm' : Int} {cd' : Int} {s' : ByteArray} (h : errIs b lt n i r tm cd s) (h' : errIs b lt' n' i' r' tm' cd' s') : lt = lt' ∧ n = n' ∧ i = i' ∧ r = r' ∧ tm = tm' ∧ cd = cd' ∧ s = s' := by
  have e := h.hd.symm.trans h'.hd
  simp only [Prod.mk.injEq, and_true] at e
  subst e
  have := h.read.symm.trans h'.read
  simp only [Prod.mk.injEq] at this
  obtain ⟨⟨a0, b0, d0⟩, a1, a2, a3, _⟩ := this
  exact ⟨rfl, a0, b0, d0, a1, a2, a3⟩
def errZ : AV := .st [.raw (.bool false), .raw (.string ⟨#[]⟩), .raw (.string ⟨#[]⟩), .raw (.string ⟨#[]⟩), .raw (.int .i64 0), .raw (.int .i64 0), .raw (.string ⟨#[]⟩)]
def errErr (b : List UInt8) : Int := if (hdIs b [5]).2 = 0 then 100 else (hdIs b [5]).2
/-- What the decoder answers. -/
def errDec (b : List UInt8) (d : AV) : Prop :=
  (∃ lt n i r tm cd s, errIs b lt n i r tm cd s ∧ d = .tup [errA lt n i r tm cd s, .raw (.int .i64 0)]) ∨
  ((∀ lt n i r tm cd s, ¬ errIs b lt n i r tm cd s) ∧ d = .tup [errZ, .raw (.int .i64 (errErr b))])
theorem errDec.unique {b : List UInt8} {d d' : AV} (h : errDec b d) (h' : errDec b d') : d = d' := by
  rcases h with ⟨lt, n, i, r, tm, cd, s, h1, rfl⟩ | ⟨h1, rfl⟩
  · rcases h' with ⟨lt', n', i', r', tm', cd', s', h2, rfl⟩ | ⟨h2, rfl⟩
    · obtain ⟨rfl, rfl, rfl, rfl, rfl, rfl, rfl⟩ := h1.inj h2
      rfl
    · exact absurd h1 (h2 _ _ _ _ _ _ _)
  · rcases h' with ⟨lt', n', i', r', tm', cd', s', h2, rfl⟩ | ⟨h2, rfl⟩
    · exact absurd h2 (h1 _ _ _ _ _ _ _)
    · rfl
theorem errDec.of {b : List UInt8} {lt : Bool} {n : ByteArray} {i : ByteArray} {r : ByteArray} {tm : Int} {cd : Int} {s : ByteArray} {d : AV} (h : errDec b d) (h1 : errIs b lt n i r tm cd s) : d = .tup [errA lt n i r tm cd s, .raw (.int .i64 0)] := h.unique (.inl ⟨_, _, _, _, _, _, _, h1, rfl⟩)
set_option maxHeartbeats 8000000 in
theorem errEncode_pure (lt : Bool) (n i r : ByteArray) (tm cd : Int) (s : ByteArray) (zn : n.size ≤ 100000) (zi : i.size ≤ 100000) (zr : r.size ≤ 100000) (zs : s.size ≤ 100000) :
    PC Tryz.prog 91 [errA lt n i r tm cd s] (errE lt n i r tm cd s) := by
  refine PC.post ?_
  obtain ⟨b0, e0⟩ : ∃ b, b = hdB 5 lt := ⟨_, rfl⟩
  have l0 : b0.length = 2 := by rw [e0]; rfl
  obtain ⟨b1, e1⟩ : ∃ b, b0 ++ prinB n i r = b := ⟨_, rfl⟩
  have l1 : b1.length = b0.length + (n.size + i.size + r.size + 3) := by rw [← e1, List.length_append]; first | rfl | simp only [prinB_length, numB_length, textB_length]
  obtain ⟨b2, e2⟩ : ∃ b, b1 ++ numB tm 4 lt = b := ⟨_, rfl⟩
  have l2 : b2.length = b1.length + 4 := by rw [← e2, List.length_append]; first | rfl | simp only [prinB_length, numB_length, textB_length]
  obtain ⟨b3, e3⟩ : ∃ b, b2 ++ numB cd 4 lt = b := ⟨_, rfl⟩
  have l3 : b3.length = b2.length + 4 := by rw [← e3, List.length_append]; first | rfl | simp only [prinB_length, numB_length, textB_length]
  obtain ⟨b4, e4⟩ : ∃ b, b3 ++ textB s = b := ⟨_, rfl⟩
  have l4 : b4.length = b3.length + (s.size + 1) := by rw [← e4, List.length_append]; first | rfl | simp only [prinB_length, numB_length, textB_length]
  have hfin : errB lt n i r tm cd s = b4 := by rw [errB, errF, ← e4, ← e3, ← e2, ← e1, e0]; simp only [List.append_assoc]
  have p1 := PutPrincipal_pure b0 n i r (by omega)
  rw [e1] at p1
  have p2 := PutNumber_pure b1 tm lt (by omega)
  rw [e2] at p2
  have p3 := PutNumber_pure b2 cd lt (by omega)
  rw [e3] at p3
  have p4 := PutText_pure b3 s (by omega)
  rw [e4] at p4
  have pH := hdPut_pure 5 lt (by decide)
  rw [← e0] at pH
  unfold errA
  refine AC.of_body (M := []) Tryz.func91 rfl (by kernel_rfl) (Nat.le_of_ble_eq_true rfl) ?_; simp only [Tryz.results91, Tryz.ntmps91]
  simp (dsimp := false) only [go_sem, ↓reduceIte, Nat.reduceEqDiff, Nat.reduceLT, Nat.reduceAdd, Nat.reduceSub, Nat.reduceMul, Nat.reduceLeDiff, reduceCtorEq, Int.reduceNeg, Int.reduceToNat, Int.reduceLT, Int.reduceLE, Int.reduceGE, Int.reduceGT, Int.reduceEq]
  refine ACs.pure (Valid_pure n i r (by omega) (by omega) (by omega)) ?_
  rcases Bool.eq_false_or_eq_true (validB n i r) with h0_0 | h0_0
  · simp (dsimp := false) only [go_sem, ↓reduceIte, Nat.reduceEqDiff, Nat.reduceLT, Nat.reduceAdd, Nat.reduceSub, Nat.reduceMul, Nat.reduceLeDiff, reduceCtorEq, Int.reduceNeg, Int.reduceToNat, Int.reduceLT, Int.reduceLE, Int.reduceGE, Int.reduceGT, Int.reduceEq, h0_0]
    refine ACs.pure (outside9_pure tm _) ?_
    by_cases h1_0 : tm < 0 ∨ tm > 4294967295
    · simp (dsimp := false) only [go_sem, ↓reduceIte, Nat.reduceEqDiff, Nat.reduceLT, Nat.reduceAdd, Nat.reduceSub, Nat.reduceMul, Nat.reduceLeDiff, reduceCtorEq, Int.reduceNeg, Int.reduceToNat, Int.reduceLT, Int.reduceLE, Int.reduceGE, Int.reduceGT, Int.reduceEq, h1_0]
      have hC : errChk lt n i r tm cd s = 104 := by rw [errChk, if_neg (by simp [h0_0]), if_pos (by omega)]
      refine ⟨noOwn, ?_⟩
      rw [errE, hC, if_neg (by decide)]
      exact Weak1.nil2
    · simp (dsimp := false) only [go_sem, ↓reduceIte, Nat.reduceEqDiff, Nat.reduceLT, Nat.reduceAdd, Nat.reduceSub, Nat.reduceMul, Nat.reduceLeDiff, reduceCtorEq, Int.reduceNeg, Int.reduceToNat, Int.reduceLT, Int.reduceLE, Int.reduceGE, Int.reduceGT, Int.reduceEq, h1_0]
      by_cases h1_1_0 : cd < 1
      · simp (dsimp := false) only [go_sem, ↓reduceIte, Nat.reduceEqDiff, Nat.reduceLT, Nat.reduceAdd, Nat.reduceSub, Nat.reduceMul, Nat.reduceLeDiff, reduceCtorEq, Int.reduceNeg, Int.reduceToNat, Int.reduceLT, Int.reduceLE, Int.reduceGE, Int.reduceGT, Int.reduceEq, h1_1_0]
        have hC : errChk lt n i r tm cd s = 104 := by rw [errChk, if_neg (by simp [h0_0]), if_pos (by omega)]
        refine ⟨noOwn, ?_⟩
        rw [errE, hC, if_neg (by decide)]
        exact Weak1.nil2
      · simp (dsimp := false) only [go_sem, ↓reduceIte, Nat.reduceEqDiff, Nat.reduceLT, Nat.reduceAdd, Nat.reduceSub, Nat.reduceMul, Nat.reduceLeDiff, reduceCtorEq, Int.reduceNeg, Int.reduceToNat, Int.reduceLT, Int.reduceLE, Int.reduceGE, Int.reduceGT, Int.reduceEq, h1_1_0]
        by_cases h1_1_1 : cd > 99
        · simp (dsimp := false) only [go_sem, ↓reduceIte, Nat.reduceEqDiff, Nat.reduceLT, Nat.reduceAdd, Nat.reduceSub, Nat.reduceMul, Nat.reduceLeDiff, reduceCtorEq, Int.reduceNeg, Int.reduceToNat, Int.reduceLT, Int.reduceLE, Int.reduceGE, Int.reduceGT, Int.reduceEq, h1_1_1]
          have hC : errChk lt n i r tm cd s = 104 := by rw [errChk, if_neg (by simp [h0_0]), if_pos (by omega)]
          refine ⟨noOwn, ?_⟩
          rw [errE, hC, if_neg (by decide)]
          exact Weak1.nil2
        · simp (dsimp := false) only [go_sem, ↓reduceIte, Nat.reduceEqDiff, Nat.reduceLT, Nat.reduceAdd, Nat.reduceSub, Nat.reduceMul, Nat.reduceLeDiff, reduceCtorEq, Int.reduceNeg, Int.reduceToNat, Int.reduceLT, Int.reduceLE, Int.reduceGE, Int.reduceGT, Int.reduceEq, h1_1_1]
          by_cases h2_0 : (s.size : Int) > 39
          · simp (dsimp := false) only [go_sem, ↓reduceIte, Nat.reduceEqDiff, Nat.reduceLT, Nat.reduceAdd, Nat.reduceSub, Nat.reduceMul, Nat.reduceLeDiff, reduceCtorEq, Int.reduceNeg, Int.reduceToNat, Int.reduceLT, Int.reduceLE, Int.reduceGE, Int.reduceGT, Int.reduceEq, h2_0]
            have hC : errChk lt n i r tm cd s = 105 := by rw [errChk, if_neg (by simp [h0_0]), if_neg (by omega), if_pos (by first | omega | (simp [h2_0]; done))]
            refine ⟨noOwn, ?_⟩
            rw [errE, hC, if_neg (by decide)]
            exact Weak1.nil2
          · simp (dsimp := false) only [go_sem, ↓reduceIte, Nat.reduceEqDiff, Nat.reduceLT, Nat.reduceAdd, Nat.reduceSub, Nat.reduceMul, Nat.reduceLeDiff, reduceCtorEq, Int.reduceNeg, Int.reduceToNat, Int.reduceLT, Int.reduceLE, Int.reduceGE, Int.reduceGT, Int.reduceEq, h2_0]
            refine ACs.pure (stringsIndexByte_pure s 0) ?_
            by_cases h3_0 : Lib.indexByte s.data.toList 0 ≥ 0
            · simp (dsimp := false) only [go_sem, ↓reduceIte, Nat.reduceEqDiff, Nat.reduceLT, Nat.reduceAdd, Nat.reduceSub, Nat.reduceMul, Nat.reduceLeDiff, reduceCtorEq, Int.reduceNeg, Int.reduceToNat, Int.reduceLT, Int.reduceLE, Int.reduceGE, Int.reduceGT, Int.reduceEq, h3_0]
              have hC : errChk lt n i r tm cd s = 100 := by rw [errChk, if_neg (by simp [h0_0]), if_neg (by omega), if_neg (by omega), if_pos (by first | omega | (simp [h3_0]; done))]
              refine ⟨noOwn, ?_⟩
              rw [errE, hC, if_neg (by decide)]
              exact Weak1.nil2
            · simp (dsimp := false) only [go_sem, ↓reduceIte, Nat.reduceEqDiff, Nat.reduceLT, Nat.reduceAdd, Nat.reduceSub, Nat.reduceMul, Nat.reduceLeDiff, reduceCtorEq, Int.reduceNeg, Int.reduceToNat, Int.reduceLT, Int.reduceLE, Int.reduceGE, Int.reduceGT, Int.reduceEq, h3_0]
              have hC : errChk lt n i r tm cd s = 0 := by rw [errChk, if_neg (by simp [h0_0]), if_neg (by omega), if_neg (by omega), if_neg (by omega)]
              (try refine AW.draw (M := []) [.v, .v, .e, .v, .v, .e, .v] mixed (by kernel_rfl) ?_)
              (try simp (dsimp := false) only [go_sem, ↓reduceIte, Nat.reduceEqDiff, Nat.reduceLT, Nat.reduceAdd, Nat.reduceSub, Nat.reduceMul, Nat.reduceLeDiff, reduceCtorEq, Int.reduceNeg, Int.reduceToNat, Int.reduceLT, Int.reduceLE, Int.reduceGE, Int.reduceGT, Int.reduceEq])
              refine ACs.pure pH ?_
              (try simp (dsimp := false) only [go_sem, ↓reduceIte, Nat.reduceEqDiff, Nat.reduceLT, Nat.reduceAdd, Nat.reduceSub, Nat.reduceMul, Nat.reduceLeDiff, reduceCtorEq, Int.reduceNeg, Int.reduceToNat, Int.reduceLT, Int.reduceLE, Int.reduceGE, Int.reduceGT, Int.reduceEq])
              refine ACs.pure p1 ?_
              (try simp (dsimp := false) only [go_sem, ↓reduceIte, Nat.reduceEqDiff, Nat.reduceLT, Nat.reduceAdd, Nat.reduceSub, Nat.reduceMul, Nat.reduceLeDiff, reduceCtorEq, Int.reduceNeg, Int.reduceToNat, Int.reduceLT, Int.reduceLE, Int.reduceGE, Int.reduceGT, Int.reduceEq])
              (try refine AW.draw (M := []) [.v, .v, .v, .v, .v, .e, .v, .v, .v, .v, .e, .v] mixed (by kernel_rfl) ?_)
              (try simp (dsimp := false) only [go_sem, ↓reduceIte, Nat.reduceEqDiff, Nat.reduceLT, Nat.reduceAdd, Nat.reduceSub, Nat.reduceMul, Nat.reduceLeDiff, reduceCtorEq, Int.reduceNeg, Int.reduceToNat, Int.reduceLT, Int.reduceLE, Int.reduceGE, Int.reduceGT, Int.reduceEq])
              refine ACs.pure p2 ?_
              (try simp (dsimp := false) only [go_sem, ↓reduceIte, Nat.reduceEqDiff, Nat.reduceLT, Nat.reduceAdd, Nat.reduceSub, Nat.reduceMul, Nat.reduceLeDiff, reduceCtorEq, Int.reduceNeg, Int.reduceToNat, Int.reduceLT, Int.reduceLE, Int.reduceGE, Int.reduceGT, Int.reduceEq])
              refine ACs.pure p3 ?_
              (try simp (dsimp := false) only [go_sem, ↓reduceIte, Nat.reduceEqDiff, Nat.reduceLT, Nat.reduceAdd, Nat.reduceSub, Nat.reduceMul, Nat.reduceLeDiff, reduceCtorEq, Int.reduceNeg, Int.reduceToNat, Int.reduceLT, Int.reduceLE, Int.reduceGE, Int.reduceGT, Int.reduceEq])
              (try refine AW.draw (M := []) [.v, .v, .v, .e, .v, .v] mixed (by kernel_rfl) ?_)
              (try simp (dsimp := false) only [go_sem, ↓reduceIte, Nat.reduceEqDiff, Nat.reduceLT, Nat.reduceAdd, Nat.reduceSub, Nat.reduceMul, Nat.reduceLeDiff, reduceCtorEq, Int.reduceNeg, Int.reduceToNat, Int.reduceLT, Int.reduceLE, Int.reduceGE, Int.reduceGT, Int.reduceEq])
              refine ACs.pure p4 ?_
              (try simp (dsimp := false) only [go_sem, ↓reduceIte, Nat.reduceEqDiff, Nat.reduceLT, Nat.reduceAdd, Nat.reduceSub, Nat.reduceMul, Nat.reduceLeDiff, reduceCtorEq, Int.reduceNeg, Int.reduceToNat, Int.reduceLT, Int.reduceLE, Int.reduceGE, Int.reduceGT, Int.reduceEq])
              rw [errE, hC, if_pos rfl, hfin]
              exact ⟨_, Weak1.refl _ _⟩
  · simp (dsimp := false) only [go_sem, ↓reduceIte, Nat.reduceEqDiff, Nat.reduceLT, Nat.reduceAdd, Nat.reduceSub, Nat.reduceMul, Nat.reduceLeDiff, reduceCtorEq, Int.reduceNeg, Int.reduceToNat, Int.reduceLT, Int.reduceLE, Int.reduceGE, Int.reduceGT, Int.reduceEq, h0_0]
    have hC : errChk lt n i r tm cd s = 103 := by rw [errChk, if_pos (by simp [h0_0])]
    refine ⟨noOwn, ?_⟩
    rw [errE, hC, if_neg (by decide)]
    exact Weak1.nil2
set_option maxHeartbeats 8000000 in
theorem rerrEncode_pure (lt : Bool) (n i r : ByteArray) (tm cd : Int) (s : ByteArray) (zn : n.size ≤ 100000) (zi : i.size ≤ 100000) (zr : r.size ≤ 100000) (zs : s.size ≤ 100000) :
    PC Tryz.prog 13 [errA lt n i r tm cd s] (errE lt n i r tm cd s) := by
  refine PC.post ?_
  obtain ⟨b0, e0⟩ : ∃ b, b = hdB 5 lt := ⟨_, rfl⟩
  have l0 : b0.length = 2 := by rw [e0]; rfl
  obtain ⟨b1, e1⟩ : ∃ b, b0 ++ prinB n i r = b := ⟨_, rfl⟩
  have l1 : b1.length = b0.length + (n.size + i.size + r.size + 3) := by rw [← e1, List.length_append]; first | rfl | simp only [prinB_length, numB_length, textB_length]
  obtain ⟨b2, e2⟩ : ∃ b, b1 ++ numB tm 4 lt = b := ⟨_, rfl⟩
  have l2 : b2.length = b1.length + 4 := by rw [← e2, List.length_append]; first | rfl | simp only [prinB_length, numB_length, textB_length]
  obtain ⟨b3, e3⟩ : ∃ b, b2 ++ numB cd 4 lt = b := ⟨_, rfl⟩
  have l3 : b3.length = b2.length + 4 := by rw [← e3, List.length_append]; first | rfl | simp only [prinB_length, numB_length, textB_length]
  obtain ⟨b4, e4⟩ : ∃ b, b3 ++ textB s = b := ⟨_, rfl⟩
  have l4 : b4.length = b3.length + (s.size + 1) := by rw [← e4, List.length_append]; first | rfl | simp only [prinB_length, numB_length, textB_length]
  have hfin : errB lt n i r tm cd s = b4 := by rw [errB, errF, ← e4, ← e3, ← e2, ← e1, e0]; simp only [List.append_assoc]
  have p1 := rPutPrincipal_pure b0 n i r (by omega)
  rw [e1] at p1
  have p2 := rPutNumber_pure b1 tm lt (by omega)
  rw [e2] at p2
  have p3 := rPutNumber_pure b2 cd lt (by omega)
  rw [e3] at p3
  have p4 := rPutText_pure b3 s (by omega)
  rw [e4] at p4
  have pH := rhdPut_pure 5 lt (by decide)
  rw [← e0] at pH
  unfold errA
  refine AC.of_body (M := []) Tryz.func13 rfl (by kernel_rfl) (Nat.le_of_ble_eq_true rfl) ?_; simp only [Tryz.results13, Tryz.ntmps13]
  simp (dsimp := false) only [go_sem, ↓reduceIte, Nat.reduceEqDiff, Nat.reduceLT, Nat.reduceAdd, Nat.reduceSub, Nat.reduceMul, Nat.reduceLeDiff, reduceCtorEq, Int.reduceNeg, Int.reduceToNat, Int.reduceLT, Int.reduceLE, Int.reduceGE, Int.reduceGT, Int.reduceEq]
  refine ACs.pure (rValid_pure n i r (by omega) (by omega) (by omega)) ?_
  rcases Bool.eq_false_or_eq_true (validB n i r) with h0_0 | h0_0
  · simp (dsimp := false) only [go_sem, ↓reduceIte, Nat.reduceEqDiff, Nat.reduceLT, Nat.reduceAdd, Nat.reduceSub, Nat.reduceMul, Nat.reduceLeDiff, reduceCtorEq, Int.reduceNeg, Int.reduceToNat, Int.reduceLT, Int.reduceLE, Int.reduceGE, Int.reduceGT, Int.reduceEq, h0_0]
    refine ACs.pure (within9_pure tm _) ?_
    by_cases h1_0 : tm ≥ 0 ∧ tm ≤ 4294967295
    rotate_left
    · simp (dsimp := false) only [go_sem, ↓reduceIte, Nat.reduceEqDiff, Nat.reduceLT, Nat.reduceAdd, Nat.reduceSub, Nat.reduceMul, Nat.reduceLeDiff, reduceCtorEq, Int.reduceNeg, Int.reduceToNat, Int.reduceLT, Int.reduceLE, Int.reduceGE, Int.reduceGT, Int.reduceEq, h1_0]
      have hC : errChk lt n i r tm cd s = 104 := by rw [errChk, if_neg (by simp [h0_0]), if_pos (by omega)]
      refine ⟨noOwn, ?_⟩
      rw [errE, hC, if_neg (by decide)]
      exact Weak1.nil2
    · simp (dsimp := false) only [go_sem, ↓reduceIte, Nat.reduceEqDiff, Nat.reduceLT, Nat.reduceAdd, Nat.reduceSub, Nat.reduceMul, Nat.reduceLeDiff, reduceCtorEq, Int.reduceNeg, Int.reduceToNat, Int.reduceLT, Int.reduceLE, Int.reduceGE, Int.reduceGT, Int.reduceEq, h1_0]
      by_cases h1_1_0 : cd < 1
      · simp (dsimp := false) only [go_sem, ↓reduceIte, Nat.reduceEqDiff, Nat.reduceLT, Nat.reduceAdd, Nat.reduceSub, Nat.reduceMul, Nat.reduceLeDiff, reduceCtorEq, Int.reduceNeg, Int.reduceToNat, Int.reduceLT, Int.reduceLE, Int.reduceGE, Int.reduceGT, Int.reduceEq, h1_1_0]
        have hC : errChk lt n i r tm cd s = 104 := by rw [errChk, if_neg (by simp [h0_0]), if_pos (by omega)]
        refine ⟨noOwn, ?_⟩
        rw [errE, hC, if_neg (by decide)]
        exact Weak1.nil2
      · simp (dsimp := false) only [go_sem, ↓reduceIte, Nat.reduceEqDiff, Nat.reduceLT, Nat.reduceAdd, Nat.reduceSub, Nat.reduceMul, Nat.reduceLeDiff, reduceCtorEq, Int.reduceNeg, Int.reduceToNat, Int.reduceLT, Int.reduceLE, Int.reduceGE, Int.reduceGT, Int.reduceEq, h1_1_0]
        by_cases h1_1_1 : cd > 99
        · simp (dsimp := false) only [go_sem, ↓reduceIte, Nat.reduceEqDiff, Nat.reduceLT, Nat.reduceAdd, Nat.reduceSub, Nat.reduceMul, Nat.reduceLeDiff, reduceCtorEq, Int.reduceNeg, Int.reduceToNat, Int.reduceLT, Int.reduceLE, Int.reduceGE, Int.reduceGT, Int.reduceEq, h1_1_1]
          have hC : errChk lt n i r tm cd s = 104 := by rw [errChk, if_neg (by simp [h0_0]), if_pos (by omega)]
          refine ⟨noOwn, ?_⟩
          rw [errE, hC, if_neg (by decide)]
          exact Weak1.nil2
        · simp (dsimp := false) only [go_sem, ↓reduceIte, Nat.reduceEqDiff, Nat.reduceLT, Nat.reduceAdd, Nat.reduceSub, Nat.reduceMul, Nat.reduceLeDiff, reduceCtorEq, Int.reduceNeg, Int.reduceToNat, Int.reduceLT, Int.reduceLE, Int.reduceGE, Int.reduceGT, Int.reduceEq, h1_1_1]
          by_cases h2_0 : (s.size : Int) > 39
          · simp (dsimp := false) only [go_sem, ↓reduceIte, Nat.reduceEqDiff, Nat.reduceLT, Nat.reduceAdd, Nat.reduceSub, Nat.reduceMul, Nat.reduceLeDiff, reduceCtorEq, Int.reduceNeg, Int.reduceToNat, Int.reduceLT, Int.reduceLE, Int.reduceGE, Int.reduceGT, Int.reduceEq, h2_0]
            have hC : errChk lt n i r tm cd s = 105 := by rw [errChk, if_neg (by simp [h0_0]), if_neg (by omega), if_pos (by first | omega | (simp [h2_0]; done))]
            refine ⟨noOwn, ?_⟩
            rw [errE, hC, if_neg (by decide)]
            exact Weak1.nil2
          · simp (dsimp := false) only [go_sem, ↓reduceIte, Nat.reduceEqDiff, Nat.reduceLT, Nat.reduceAdd, Nat.reduceSub, Nat.reduceMul, Nat.reduceLeDiff, reduceCtorEq, Int.reduceNeg, Int.reduceToNat, Int.reduceLT, Int.reduceLE, Int.reduceGE, Int.reduceGT, Int.reduceEq, h2_0]
            have hge := ge_ix s
            refine AW.loopJ (M := []) (X := Nat) (fun j => ⟨61, tmL [(1, .ref (.st [.raw (.bool lt), .raw (.string n), .raw (.string i), .raw (.string r), .raw (.int .i64 tm), .raw (.int .i64 cd), .raw (.string s)])), (4, .raw (.int .i64 j))], noOwn⟩)
              (fun j => j ≤ s.size ∧ ∀ q < j, s.data.toList.getD q 0 ≠ 0) (fun j => s.size - j) 0 ⟨Nat.zero_le _, fun q hq => absurd hq (by omega)⟩ ?_ ?_
            · (refine Ghost.same ?_; (repeat' (first | exact all_nil | refine all_cons ?_ ?_)) <;> (first | (simp (dsimp := false) only [go_sem, ↓reduceIte, Nat.reduceEqDiff, Nat.reduceLT, Nat.reduceAdd, Nat.reduceSub, Nat.reduceMul, Nat.reduceLeDiff, reduceCtorEq, Int.reduceNeg, Int.reduceToNat, Int.reduceLT, Int.reduceLE, Int.reduceGE, Int.reduceGT, Int.reduceEq]; done) | (simp (dsimp := false) only [go_sem, ↓reduceIte, Nat.reduceEqDiff, Nat.reduceLT, Nat.reduceAdd, Nat.reduceSub, Nat.reduceMul, Nat.reduceLeDiff, reduceCtorEq, Int.reduceNeg, Int.reduceToNat, Int.reduceLT, Int.reduceLE, Int.reduceGE, Int.reduceGT, Int.reduceEq]; rfl)))
            rintro j ⟨hj, hne⟩
            by_cases hlt : (j : Int) < s.size
            · have e2 : IntKind.i64.wrap ((j : Int) + 1) = ((j + 1 : Nat) : Int) := by rw [wrap_i64 (by omega) (by omega)]; omega
              have hgd : s.data.getD j 0 = s.data.toList.getD j 0 := by simp [List.getD_eq_getElem?_getD, Array.getD_eq_getD_getElem?]
              have hin := in_ix s j (by omega)
              obtain ⟨c, hc⟩ : ∃ c, s.data.toList.getD j 0 = c := ⟨_, rfl⟩
              rw [hc] at hgd hin
              by_cases hz : (c.toNat : Int) = 0
              · have hz' : Lib.indexByte s.data.toList 0 ≥ 0 := hin (by apply UInt8.toNat_inj.1; simp; omega)
                simp (dsimp := false) only [go_sem, ↓reduceIte, Nat.reduceEqDiff, Nat.reduceLT, Nat.reduceAdd, Nat.reduceSub, Nat.reduceMul, Nat.reduceLeDiff, reduceCtorEq, Int.reduceNeg, Int.reduceToNat, Int.reduceLT, Int.reduceLE, Int.reduceGE, Int.reduceGT, Int.reduceEq, hlt, hgd, hz]
                refine ⟨by omega, ?_⟩
                have hC : errChk lt n i r tm cd s = 100 := by rw [errChk, if_neg (by simp [h0_0]), if_neg (by omega), if_neg (by omega), if_pos (by omega)]
                refine ⟨noOwn, ?_⟩
                rw [errE, hC, if_neg (by decide)]
                exact Weak1.nil2
              · simp (dsimp := false) only [go_sem, ↓reduceIte, Nat.reduceEqDiff, Nat.reduceLT, Nat.reduceAdd, Nat.reduceSub, Nat.reduceMul, Nat.reduceLeDiff, reduceCtorEq, Int.reduceNeg, Int.reduceToNat, Int.reduceLT, Int.reduceLE, Int.reduceGE, Int.reduceGT, Int.reduceEq, hlt, hgd, hz, e2]
                refine ⟨by omega, j + 1, ⟨by omega, fun q hq => ?_⟩, ?_, by omega⟩
                · by_cases hqj : q = j
                  · rw [hqj, hc]; exact fun e => hz (by rw [e]; rfl)
                  · exact hne q (by omega)
                · (refine Ghost.same ?_; (repeat' (first | exact all_nil | refine all_cons ?_ ?_)) <;> (first | (simp (dsimp := false) only [go_sem, ↓reduceIte, Nat.reduceEqDiff, Nat.reduceLT, Nat.reduceAdd, Nat.reduceSub, Nat.reduceMul, Nat.reduceLeDiff, reduceCtorEq, Int.reduceNeg, Int.reduceToNat, Int.reduceLT, Int.reduceLE, Int.reduceGE, Int.reduceGT, Int.reduceEq]; done) | (simp (dsimp := false) only [go_sem, ↓reduceIte, Nat.reduceEqDiff, Nat.reduceLT, Nat.reduceAdd, Nat.reduceSub, Nat.reduceMul, Nat.reduceLeDiff, reduceCtorEq, Int.reduceNeg, Int.reduceToNat, Int.reduceLT, Int.reduceLE, Int.reduceGE, Int.reduceGT, Int.reduceEq]; rfl)))
            · have hz' : ¬ Lib.indexByte s.data.toList 0 ≥ 0 := fun h => by
                obtain ⟨q, hq, e⟩ := hge h
                exact hne q (by omega) e
              simp (dsimp := false) only [go_sem, ↓reduceIte, Nat.reduceEqDiff, Nat.reduceLT, Nat.reduceAdd, Nat.reduceSub, Nat.reduceMul, Nat.reduceLeDiff, reduceCtorEq, Int.reduceNeg, Int.reduceToNat, Int.reduceLT, Int.reduceLE, Int.reduceGE, Int.reduceGT, Int.reduceEq, hlt]
              have hC : errChk lt n i r tm cd s = 0 := by rw [errChk, if_neg (by simp [h0_0]), if_neg (by omega), if_neg (by omega), if_neg (by omega)]
              (try refine AW.draw (M := []) [.v, .v, .e, .v, .v, .e, .v] mixed (by kernel_rfl) ?_)
              (try simp (dsimp := false) only [go_sem, ↓reduceIte, Nat.reduceEqDiff, Nat.reduceLT, Nat.reduceAdd, Nat.reduceSub, Nat.reduceMul, Nat.reduceLeDiff, reduceCtorEq, Int.reduceNeg, Int.reduceToNat, Int.reduceLT, Int.reduceLE, Int.reduceGE, Int.reduceGT, Int.reduceEq])
              refine ACs.pure pH ?_
              (try simp (dsimp := false) only [go_sem, ↓reduceIte, Nat.reduceEqDiff, Nat.reduceLT, Nat.reduceAdd, Nat.reduceSub, Nat.reduceMul, Nat.reduceLeDiff, reduceCtorEq, Int.reduceNeg, Int.reduceToNat, Int.reduceLT, Int.reduceLE, Int.reduceGE, Int.reduceGT, Int.reduceEq])
              refine ACs.pure p1 ?_
              (try simp (dsimp := false) only [go_sem, ↓reduceIte, Nat.reduceEqDiff, Nat.reduceLT, Nat.reduceAdd, Nat.reduceSub, Nat.reduceMul, Nat.reduceLeDiff, reduceCtorEq, Int.reduceNeg, Int.reduceToNat, Int.reduceLT, Int.reduceLE, Int.reduceGE, Int.reduceGT, Int.reduceEq])
              (try refine AW.draw (M := []) [.v, .v, .v, .v, .v, .e, .v, .v, .v, .v, .e, .v] mixed (by kernel_rfl) ?_)
              (try simp (dsimp := false) only [go_sem, ↓reduceIte, Nat.reduceEqDiff, Nat.reduceLT, Nat.reduceAdd, Nat.reduceSub, Nat.reduceMul, Nat.reduceLeDiff, reduceCtorEq, Int.reduceNeg, Int.reduceToNat, Int.reduceLT, Int.reduceLE, Int.reduceGE, Int.reduceGT, Int.reduceEq])
              refine ACs.pure p2 ?_
              (try simp (dsimp := false) only [go_sem, ↓reduceIte, Nat.reduceEqDiff, Nat.reduceLT, Nat.reduceAdd, Nat.reduceSub, Nat.reduceMul, Nat.reduceLeDiff, reduceCtorEq, Int.reduceNeg, Int.reduceToNat, Int.reduceLT, Int.reduceLE, Int.reduceGE, Int.reduceGT, Int.reduceEq])
              refine ACs.pure p3 ?_
              (try simp (dsimp := false) only [go_sem, ↓reduceIte, Nat.reduceEqDiff, Nat.reduceLT, Nat.reduceAdd, Nat.reduceSub, Nat.reduceMul, Nat.reduceLeDiff, reduceCtorEq, Int.reduceNeg, Int.reduceToNat, Int.reduceLT, Int.reduceLE, Int.reduceGE, Int.reduceGT, Int.reduceEq])
              (try refine AW.draw (M := []) [.v, .v, .v, .e, .v, .v] mixed (by kernel_rfl) ?_)
              (try simp (dsimp := false) only [go_sem, ↓reduceIte, Nat.reduceEqDiff, Nat.reduceLT, Nat.reduceAdd, Nat.reduceSub, Nat.reduceMul, Nat.reduceLeDiff, reduceCtorEq, Int.reduceNeg, Int.reduceToNat, Int.reduceLT, Int.reduceLE, Int.reduceGE, Int.reduceGT, Int.reduceEq])
              refine ACs.pure p4 ?_
              (try simp (dsimp := false) only [go_sem, ↓reduceIte, Nat.reduceEqDiff, Nat.reduceLT, Nat.reduceAdd, Nat.reduceSub, Nat.reduceMul, Nat.reduceLeDiff, reduceCtorEq, Int.reduceNeg, Int.reduceToNat, Int.reduceLT, Int.reduceLE, Int.reduceGE, Int.reduceGT, Int.reduceEq])
              rw [errE, hC, if_pos rfl, hfin]
              exact ⟨_, Weak1.refl _ _⟩
  · simp (dsimp := false) only [go_sem, ↓reduceIte, Nat.reduceEqDiff, Nat.reduceLT, Nat.reduceAdd, Nat.reduceSub, Nat.reduceMul, Nat.reduceLeDiff, reduceCtorEq, Int.reduceNeg, Int.reduceToNat, Int.reduceLT, Int.reduceLE, Int.reduceGE, Int.reduceGT, Int.reduceEq, h0_0]
    have hC : errChk lt n i r tm cd s = 103 := by rw [errChk, if_pos (by simp [h0_0])]
    refine ⟨noOwn, ?_⟩
    rw [errE, hC, if_neg (by decide)]
    exact Weak1.nil2
set_option maxHeartbeats 8000000 in
theorem errDecode_pn (b : List UInt8) (hn : b.length ≤ 140737488355000) : PN Tryz.prog 24 [.lst 1 (b.map byteA)] (errDec b) := by
  refine PN.of_ac ?_
  obtain ⟨⟨lt, e⟩, hI⟩ : ∃ x, hdIs b [5] = x := ⟨_, rfl⟩
  by_cases he : e = 0
  rotate_left
  · refine AC.of_body (M := []) Tryz.func24 rfl (by kernel_rfl) (Nat.le_of_ble_eq_true rfl) ?_; simp only [Tryz.results24, Tryz.ntmps24]
    simp (dsimp := false) only [go_sem, ↓reduceIte, Nat.reduceEqDiff, Nat.reduceLT, Nat.reduceAdd, Nat.reduceSub, Nat.reduceMul, Nat.reduceLeDiff, reduceCtorEq, Int.reduceNeg, Int.reduceToNat, Int.reduceLT, Int.reduceLE, Int.reduceGE, Int.reduceGT, Int.reduceEq]
    intro k1 hk1
    refine ACs.of (kdcOpen_own b 5 lt e hn hI _ _ ⟨fun _ => ?_, fun h => absurd h he⟩)
    simp (dsimp := false) only [go_sem, ↓reduceIte, Nat.reduceEqDiff, Nat.reduceLT, Nat.reduceAdd, Nat.reduceSub, Nat.reduceMul, Nat.reduceLeDiff, reduceCtorEq, Int.reduceNeg, Int.reduceToNat, Int.reduceLT, Int.reduceLE, Int.reduceGE, Int.reduceGT, Int.reduceEq, he]
    refine .inr ⟨fun lt' n' i' r' tm' cd' s' h => ?_, by rw [errErr, hI, if_neg he]; rfl⟩
    have := hI.symm.trans h.hd
    simp only [Prod.mk.injEq] at this
    exact he this.2
  · subst he
    have herr : errErr b = 100 := by rw [errErr, hI]; rfl
    have o0 : 0 ≤ ((2 : Int), false).1 ∧ ((2 : Int), false).1 ≤ b.length := ⟨by decide, hdIs_len hI⟩
    obtain ⟨⟨⟨p1_1, p1_2, p1_3⟩, s1⟩, e1⟩ : ∃ x, cPrin b (2, false) = x := ⟨_, rfl⟩
    have o1 : 0 ≤ s1.1 ∧ s1.1 ≤ b.length := by have := cPrin_ok (b := b) (s := (2, false)) o0.1 o0.2; rw [e1] at this; exact this
    have z1 := cPrin_small b (2, false)
    rw [e1] at z1
    simp only at z1
    obtain ⟨x2, e2⟩ : ∃ x, cNum b 4 lt s1 = x := ⟨_, rfl⟩
    have o2 : 0 ≤ x2.2.1 ∧ x2.2.1 ≤ b.length := by rw [← e2]; exact cNum_ok o1.1 o1.2
    obtain ⟨x3, e3⟩ : ∃ x, cNum b 4 lt x2.2 = x := ⟨_, rfl⟩
    have o3 : 0 ≤ x3.2.1 ∧ x3.2.1 ≤ b.length := by rw [← e3]; exact cNum_ok o2.1 o2.2
    obtain ⟨x4, e4⟩ : ∃ x, cTxt b x3.2 = x := ⟨_, rfl⟩
    have o4 : 0 ≤ x4.2.1 ∧ x4.2.1 ≤ b.length := by rw [← e4]; exact cTxt_ok o3.1 o3.2
    have z4 : x4.1.size ≤ 39 := by rw [← e4]; exact cTxt_small _ _
    have hR : errR b lt (2, false) = ((p1_1, p1_2, p1_3), x2.1, x3.1, x4.1, x4.2.2) := by simp only [errR, e1, e2, e3, e4]
    have hE := errEncode_pure lt p1_1 p1_2 p1_3 x2.1 x3.1 x4.1 (by omega) (by omega) (by omega) (by omega) 
    unfold errA errE at hE
    have key : ∀ lt' n' i' r' tm' cd' s', errIs b lt' n' i' r' tm' cd' s' → lt' = lt ∧ n' = p1_1 ∧ i' = p1_2 ∧ r' = p1_3 ∧ tm' = x2.1 ∧ cd' = x3.1 ∧ s' = x4.1 ∧ x4.2.2 = false := fun lt' n' i' r' tm' cd' s' h => by
      have hl : lt' = lt := by have := hI.symm.trans h.hd; simp only [Prod.mk.injEq] at this; exact this.1.symm
      subst hl
      have := h.read.symm.trans hR
      simp only [Prod.mk.injEq] at this
      obtain ⟨⟨a0, b0, d0⟩, a1, a2, a3, j⟩ := this
      exact ⟨rfl, a0, b0, d0, a1, a2, a3, j.symm⟩
    refine AC.of_body (M := []) Tryz.func24 rfl (by kernel_rfl) (Nat.le_of_ble_eq_true rfl) ?_; simp only [Tryz.results24, Tryz.ntmps24]
    simp (dsimp := false) only [go_sem, ↓reduceIte, Nat.reduceEqDiff, Nat.reduceLT, Nat.reduceAdd, Nat.reduceSub, Nat.reduceMul, Nat.reduceLeDiff, reduceCtorEq, Int.reduceNeg, Int.reduceToNat, Int.reduceLT, Int.reduceLE, Int.reduceGE, Int.reduceGT, Int.reduceEq]
    intro k1 hk1
    refine ACs.of (kdcOpen_own b 5 lt 0 hn hI _ _ ⟨fun h => absurd rfl h, fun _ k hk => ?_⟩)
    have n1 := none_ne hk
    have a1 : ∀ (own : Own) o, (own.set k1 o) k = own k := fun own o => Own.set_ne _ _ n1
    have a2 : ∀ (own : Own) o, (own.set k o) k1 = own k1 := fun own o => Own.set_ne _ _ (Ne.symm n1)
    simp (dsimp := false) only [go_sem, ↓reduceIte, Nat.reduceEqDiff, Nat.reduceLT, Nat.reduceAdd, Nat.reduceSub, Nat.reduceMul, Nat.reduceLeDiff, reduceCtorEq, Int.reduceNeg, Int.reduceToNat, Int.reduceLT, Int.reduceLE, Int.reduceGE, Int.reduceGT, Int.reduceEq, a1, a2]
    refine ACs.of (CPrincipal_own b lt (2, false) k _ _ (by simp only [a1, a2, Own.set_same]) hn ?_)
    simp (dsimp := false) only [go_sem, ↓reduceIte, Nat.reduceEqDiff, Nat.reduceLT, Nat.reduceAdd, Nat.reduceSub, Nat.reduceMul, Nat.reduceLeDiff, reduceCtorEq, Int.reduceNeg, Int.reduceToNat, Int.reduceLT, Int.reduceLE, Int.reduceGE, Int.reduceGT, Int.reduceEq, e1, prinA, a1, a2]
    intro k2 hk2
    have n2 := none_ne hk2
    have hk2' := hk2
    rw [Own.set_ne _ _ n2] at hk2'
    have n12 := none_ne hk2'
    have b1 : ∀ (own : Own) o, (own.set k2 o) k = own k := fun own o => Own.set_ne _ _ (Ne.symm n2)
    have b2 : ∀ (own : Own) o, (own.set k o) k2 = own k2 := fun own o => Own.set_ne _ _ n2
    have b3 : ∀ (own : Own) o, (own.set k2 o) k1 = own k1 := fun own o => Own.set_ne _ _ (Ne.symm n12)
    have b4 : ∀ (own : Own) o, (own.set k1 o) k2 = own k2 := fun own o => Own.set_ne _ _ n12
    clear hk2 hk2' hk hk1
    refine ACs.of (CNumber_own b lt s1 k _ _ (by simp only [a1, a2, b1, b2, b3, b4, Own.set_same]) o1.1 o1.2 hn ?_)
    simp (dsimp := false) only [go_sem, ↓reduceIte, Nat.reduceEqDiff, Nat.reduceLT, Nat.reduceAdd, Nat.reduceSub, Nat.reduceMul, Nat.reduceLeDiff, reduceCtorEq, Int.reduceNeg, Int.reduceToNat, Int.reduceLT, Int.reduceLE, Int.reduceGE, Int.reduceGT, Int.reduceEq, e2, a1, a2, b1, b2, b3, b4]
    refine ACs.of (CNumber_own b lt x2.2 k _ _ (by simp only [a1, a2, b1, b2, b3, b4, Own.set_same]) o2.1 o2.2 hn ?_)
    simp (dsimp := false) only [go_sem, ↓reduceIte, Nat.reduceEqDiff, Nat.reduceLT, Nat.reduceAdd, Nat.reduceSub, Nat.reduceMul, Nat.reduceLeDiff, reduceCtorEq, Int.reduceNeg, Int.reduceToNat, Int.reduceLT, Int.reduceLE, Int.reduceGE, Int.reduceGT, Int.reduceEq, e3, a1, a2, b1, b2, b3, b4]
    refine ACs.of (CText_own b lt x3.2 k _ _ (by simp only [a1, a2, b1, b2, b3, b4, Own.set_same]) hn ?_)
    simp (dsimp := false) only [go_sem, ↓reduceIte, Nat.reduceEqDiff, Nat.reduceLT, Nat.reduceAdd, Nat.reduceSub, Nat.reduceMul, Nat.reduceLeDiff, reduceCtorEq, Int.reduceNeg, Int.reduceToNat, Int.reduceLT, Int.reduceLE, Int.reduceGE, Int.reduceGT, Int.reduceEq, e4, a1, a2, b1, b2, b3, b4]
    refine ACs.pure hE ?_
    simp (dsimp := false) only [go_sem, ↓reduceIte, Nat.reduceEqDiff, Nat.reduceLT, Nat.reduceAdd, Nat.reduceSub, Nat.reduceMul, Nat.reduceLeDiff, reduceCtorEq, Int.reduceNeg, Int.reduceToNat, Int.reduceLT, Int.reduceLE, Int.reduceGE, Int.reduceGT, Int.reduceEq, a1, a2, b1, b2, b3, b4]
    refine ACs.of (kdcIs_own b lt x4.2 k _ _ (by simp only [a1, a2, b1, b2, b3, b4, Own.set_same]) _ _ ?_)
    rcases Bool.eq_false_or_eq_true x4.2.2 with hb | hb
    · simp (dsimp := false) only [go_sem, ↓reduceIte, Nat.reduceEqDiff, Nat.reduceLT, Nat.reduceAdd, Nat.reduceSub, Nat.reduceMul, Nat.reduceLeDiff, reduceCtorEq, Int.reduceNeg, Int.reduceToNat, Int.reduceLT, Int.reduceLE, Int.reduceGE, Int.reduceGT, Int.reduceEq, hb, a1, a2, b1, b2, b3, b4, Bool.not_true, Bool.not_false, Bool.true_and, Bool.false_and, Bool.and_false, Bool.and_true, decide_true, decide_false, decide_eq_true_eq]
      refine .inr ⟨fun lt' n' i' r' tm' cd' s' h => ?_, by rw [herr]; rfl⟩
      rw [(key _ _ _ _ _ _ _ h).2.2.2.2.2.2.2] at hb
      cases hb
    by_cases hc : errChk lt p1_1 p1_2 p1_3 x2.1 x3.1 x4.1 = 0
    · simp only [hc, if_true]
      by_cases hq : errB lt p1_1 p1_2 p1_3 x2.1 x3.1 x4.1 = b
      · simp (dsimp := false) only [go_sem, ↓reduceIte, Nat.reduceEqDiff, Nat.reduceLT, Nat.reduceAdd, Nat.reduceSub, Nat.reduceMul, Nat.reduceLeDiff, reduceCtorEq, Int.reduceNeg, Int.reduceToNat, Int.reduceLT, Int.reduceLE, Int.reduceGE, Int.reduceGT, Int.reduceEq, hb, hc, hq, bytes_eq, a1, a2, b1, b2, b3, b4, Bool.not_true, Bool.not_false, Bool.true_and, Bool.false_and, Bool.and_false, Bool.and_true, decide_true, decide_false, decide_eq_true_eq]
        exact .inl ⟨_, _, _, _, _, _, _, ⟨hc, hq⟩, rfl⟩
      · simp (dsimp := false) only [go_sem, ↓reduceIte, Nat.reduceEqDiff, Nat.reduceLT, Nat.reduceAdd, Nat.reduceSub, Nat.reduceMul, Nat.reduceLeDiff, reduceCtorEq, Int.reduceNeg, Int.reduceToNat, Int.reduceLT, Int.reduceLE, Int.reduceGE, Int.reduceGT, Int.reduceEq, hb, hc, hq, bytes_eq, a1, a2, b1, b2, b3, b4, Bool.not_true, Bool.not_false, Bool.true_and, Bool.false_and, Bool.and_false, Bool.and_true, decide_true, decide_false, decide_eq_true_eq]
        refine .inr ⟨fun lt' n' i' r' tm' cd' s' h => ?_, by rw [herr]; rfl⟩
        obtain ⟨rfl, rfl, rfl, rfl, rfl, rfl, rfl, _⟩ := key _ _ _ _ _ _ _ h
        exact hq h.2
    · simp (dsimp := false) only [go_sem, ↓reduceIte, Nat.reduceEqDiff, Nat.reduceLT, Nat.reduceAdd, Nat.reduceSub, Nat.reduceMul, Nat.reduceLeDiff, reduceCtorEq, Int.reduceNeg, Int.reduceToNat, Int.reduceLT, Int.reduceLE, Int.reduceGE, Int.reduceGT, Int.reduceEq, hb, hc, a1, a2, b1, b2, b3, b4, Bool.not_true, Bool.not_false, Bool.true_and, Bool.false_and, Bool.and_false, Bool.and_true, decide_true, decide_false, decide_eq_true_eq]
      refine .inr ⟨fun lt' n' i' r' tm' cd' s' h => ?_, by rw [herr]; rfl⟩
      obtain ⟨rfl, rfl, rfl, rfl, rfl, rfl, rfl, _⟩ := key _ _ _ _ _ _ _ h
      exact hc (errOk_chk h.1)
end Go.Proofs.YtghnigbihllnmaaGreat.Fn
