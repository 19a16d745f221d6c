/- AP requests. -/
import Derived.Test.YtghnigbihllnmaaGreatFn39
import Derived.Test.YtghnigbihllnmaaGreatFn36
import Derived.Test.YtghnigbihllnmaaGreatFn31
import Derived.Test.YtghnigbihllnmaaGreatFn28
import Derived.Test.YtghnigbihllnmaaGreatFn20
import Derived.Test.YtghnigbihllnmaaGreatFn8
set_option linter.unusedVariables false
set_option linter.unusedSimpArgs false
namespace Go.Proofs.YtghnigbihllnmaaGreat.Fn
open Go Hl Sp Ty
set_option maxRecDepth 100000
theorem realmB_plain {s : ByteArray} (h : realmB s = true) : plainB s := by
  unfold realmB at h
  simp only [Bool.and_eq_true] at h
  exact printB_plain h.2
theorem readN_nn (b : List UInt8) (at_ : Int) (size : Nat) (lt : Bool) : 0 ≤ (readN b at_ size lt).1 := by
  unfold readN
  split
  · exact Int.natCast_nonneg _
  · exact Int.le_refl _
theorem readN_le (b : List UInt8) (at_ : Int) (size : Nat) (lt : Bool) (h : size ≤ 2) : (readN b at_ size lt).1 ≤ 65535 := by
  unfold readN
  split
  · have h1 := readV_lt ((b.drop at_.toNat).take size) lt
    have h2 : 2 ^ (8 * ((b.drop at_.toNat).take size).length) ≤ 2 ^ (8 * 2) := Nat.pow_le_pow_right (by decide) (by simp; omega)
    simp only
    omega
  · decide
theorem cNum_nn (b : List UInt8) (size : Nat) (lt : Bool) (s : Int × Bool) : 0 ≤ (cNum b size lt s).1 := by
  unfold cNum nextI
  simp only
  split
  · exact Int.le_refl _
  · split
    · exact Int.le_refl _
    · exact readN_nn _ _ _ _
theorem cNum_le (b : List UInt8) (size : Nat) (lt : Bool) (s : Int × Bool) (h : size ≤ 2) : (cNum b size lt s).1 ≤ 65535 := by
  unfold cNum nextI
  simp only
  split
  · decide
  · split
    · decide
    · exact readN_le _ _ _ _ h
theorem bytesR_le' (b : List UInt8) (at_ n : Int) (h : n ≤ 65535) : (bytesR b at_ n).1.length ≤ 65535 := by
  unfold bytesR
  split
  · simp; omega
  · exact Nat.zero_le _
theorem cByt_le (b : List UInt8) (n : Int) (s : Int × Bool) (_ : Unit) (h : n ≤ 65535) : (cByt b n s).1.length ≤ 65535 := by
  unfold cByt nextB
  simp only
  split
  · exact Nat.zero_le _
  · split
    · exact Nat.zero_le _
    · exact bytesR_le' _ _ _ h
theorem rNum_nn (b : List UInt8) (size : Nat) (lt : Bool) (s : Int × Bool) : 0 ≤ (rNum b size lt s).1 := readN_nn _ _ _ _
theorem rNum_le (b : List UInt8) (size : Nat) (lt : Bool) (s : Int × Bool) (h : size ≤ 2) : (rNum b size lt s).1 ≤ 65535 := readN_le _ _ _ _ h
theorem rByt_le (b : List UInt8) (n : Int) (s : Int × Bool) (_ : Unit) (h : n ≤ 65535) : (rByt b n s).1.length ≤ 65535 := bytesR_le' _ _ _ h
def apK (mu : Bool) : Int := if mu then 4 else 3
theorem apK_ok (mu : Bool) : 1 ≤ apK mu ∧ apK mu ≤ 10 := by cases mu <;> decide
theorem rPutOctet_own (b : List UInt8) (n : Int) (hn : b.length ≤ 140737488355000) (own : Own) (K : AV → Own → Prop) (h : RowK 5 1 (b ++ [u8 n]).length ((b ++ [u8 n]).map byteA) own K) :
    AC Tryz.prog 62 [.lst 1 (b.map byteA), .raw (.int .i64 n)] own K := by
  have h2 := h.2
  simp only [List.length_append, List.length_singleton] at h2
  refine AC.of_body (M := []) Tryz.func62 rfl (by kernel_rfl) (Nat.le_of_ble_eq_true rfl) ?_; simp only [Tryz.results62, Tryz.ntmps62]
  simp (dsimp := false) only [go_sem, ↓reduceIte, Nat.reduceEqDiff, Nat.reduceLT, Nat.reduceAdd, Nat.reduceSub, Nat.reduceMul, Nat.reduceLeDiff, reduceCtorEq, Int.reduceNeg, Int.reduceToNat, Int.reduceLT, Int.reduceLE, Int.reduceGE, Int.reduceGT, Int.reduceEq]
  have hp := rput_own b n 1 false (by omega) (by omega) hn own
  rw [numB_one, show ((1 : Nat) : Int) = 1 from rfl] at hp
  refine ACs.of (hp _ fun k c hk hc => ?_)
  simp (dsimp := false) only [go_sem, ↓reduceIte, Nat.reduceEqDiff, Nat.reduceLT, Nat.reduceAdd, Nat.reduceSub, Nat.reduceMul, Nat.reduceLeDiff, reduceCtorEq, Int.reduceNeg, Int.reduceToNat, Int.reduceLT, Int.reduceLE, Int.reduceGE, Int.reduceGT, Int.reduceEq]
  have := h2 k c hk hc
  simpa using this
def apA (lt mu : Bool) (kv : Int) (r : ByteArray) (tk au : List UInt8) : AV := .st [.raw (.bool lt), .raw (.bool mu), .raw (.int .i64 kv), .raw (.string r), .lst 1 (tk.map byteA), .lst 1 (au.map byteA)]
/-- The first error. -/
def apChk (lt mu : Bool) (kv : Int) (r : ByteArray) (tk au : List UInt8) : Int := if (realmB r) = false then 103 else if kv < 0 ∨ kv > 255 then 104 else if (tk.length : Int) > 255 ∨ (au.length : Int) > 255 then 105 else 0
/-- The fields behind the header. -/
def apF (lt mu : Bool) (kv : Int) (r : ByteArray) (tk au : List UInt8) : List UInt8 := [u8 kv] ++ textB r ++ [u8 (tk.length : Int)] ++ [u8 (au.length : Int)] ++ tk ++ au
def apB (lt mu : Bool) (kv : Int) (r : ByteArray) (tk au : List UInt8) : List UInt8 := hdB (apK mu) lt ++ apF lt mu kv r tk au
theorem apF_length (lt mu : Bool) (kv : Int) (r : ByteArray) (tk au : List UInt8) : (apF lt mu kv r tk au).length = 1 + (r.size + 1) + 1 + 1 + tk.length + au.length := by
  simp only [apF, List.length_append, prinB_length, numB_length, textB_length, List.length_singleton] <;> omega
/-- What the encoder answers. -/
def apE (lt mu : Bool) (kv : Int) (r : ByteArray) (tk au : List UInt8) : AV := .tup [.lst 1 ((if apChk lt mu kv r tk au = 0 then apB lt mu kv r tk au else []).map byteA), .raw (.int .i64 (apChk lt mu kv r tk au))]
theorem apChk_ok {lt : Bool} {mu : Bool} {kv : Int} {r : ByteArray} {tk : List UInt8} {au : List UInt8} (h : apChk lt mu kv r tk au = 0) : realmB r = true ∧ (0 ≤ kv ∧ kv ≤ 255) ∧ (tk.length : Int) ≤ 255 ∧ (au.length : Int) ≤ 255 := by
  unfold apChk at h
  split at h
  · cases h
  · rename_i h0
    have h0 : (realmB r) = true := (Bool.eq_false_or_eq_true _).resolve_right h0
    split at h
    · cases h
    · rename_i h1
      split at h
      · cases h
      · rename_i h2
        exact ⟨h0, (by omega), (by omega), (by omega)⟩
/-- Without errors. -/
def apOk (lt mu : Bool) (kv : Int) (r : ByteArray) (tk au : List UInt8) : Prop := apChk lt mu kv r tk au = 0
theorem apOk_chk {lt : Bool} {mu : Bool} {kv : Int} {r : ByteArray} {tk : List UInt8} {au : List UInt8} (h : apOk lt mu kv r tk au) : apChk lt mu kv r tk au = 0 := h
/-- What is read of the fields. -/
def apR (b : List UInt8) (lt : Bool) (s0 : Int × Bool) : Int × ByteArray × Int × Int × List UInt8 × List UInt8 × Bool :=
  let y1 := cNum b 1 false s0
  let y2 := cTxt b y1.2
  let y3 := cNum b 1 false y2.2
  let y4 := cNum b 1 false y3.2
  let y5 := cByt b y3.1 y4.2
  let y6 := cByt b y4.1 y5.2
  (y1.1, y2.1, y3.1, y4.1, y5.1, y6.1, y6.2.2)
theorem apR_ok (pre post : List UInt8) (lt : Bool) (mu : Bool) (kv : Int) (r : ByteArray) (tk : List UInt8) (au : List UInt8) (g1 : 0 ≤ kv ∧ kv ≤ 255) (g2 : plainB r) (g3 : 0 ≤ (tk.length : Int) ∧ (tk.length : Int) ≤ 255) (g4 : 0 ≤ (au.length : Int) ∧ (au.length : Int) ≤ 255) (g5 : (tk.length : Int) = (tk.length : Int)) (g6 : (au.length : Int) = (au.length : Int)) : apR (pre ++ (apF lt mu kv r tk au ++ post)) lt (pre.length, false) = (kv, r, (tk.length : Int), (au.length : Int), tk, au, false) := by
  obtain ⟨b, hb⟩ : ∃ b, b = pre ++ (apF lt mu kv r tk au ++ post) := ⟨_, rfl⟩
  obtain ⟨c1, hc1⟩ : ∃ c, c = u8 kv := ⟨_, rfl⟩
  have hu1 : (c1.toNat : Int) = kv := by rw [hc1, u8_toNat]; omega
  obtain ⟨B2, hc2⟩ : ∃ B, B = textB r := ⟨_, rfl⟩
  have hl2 : B2.length = (r.size + 1) := by rw [hc2]; simp only [prinB_length, numB_length, textB_length]
  obtain ⟨c3, hc3⟩ : ∃ c, c = u8 (tk.length : Int) := ⟨_, rfl⟩
  have hu3 : (c3.toNat : Int) = (tk.length : Int) := by rw [hc3, u8_toNat]; omega
  obtain ⟨c4, hc4⟩ : ∃ c, c = u8 (au.length : Int) := ⟨_, rfl⟩
  have hu4 : (c4.toNat : Int) = (au.length : Int) := by rw [hc4, u8_toNat]; omega
  have q1 : b = pre ++ (c1 :: (B2 ++ (c3 :: (c4 :: (tk ++ (au ++ post)))))) := by rw [hb, hc1, hc2, hc3, hc4]; simp [apF]
  have q2 : b = (pre ++ [c1]) ++ (B2 ++ (c3 :: (c4 :: (tk ++ (au ++ post))))) := by rw [q1]; simp
  have q3 : b = (pre ++ [c1] ++ B2) ++ (c3 :: (c4 :: (tk ++ (au ++ post)))) := by rw [q1]; simp
  have q4 : b = (pre ++ [c1] ++ B2 ++ [c3]) ++ (c4 :: (tk ++ (au ++ post))) := by rw [q1]; simp
  have q5 : b = (pre ++ [c1] ++ B2 ++ [c3] ++ [c4]) ++ (tk ++ (au ++ post)) := by rw [q1]; simp
  have q6 : b = (pre ++ [c1] ++ B2 ++ [c3] ++ [c4] ++ tk) ++ (au ++ post) := by rw [q1]; simp
  have r1 := cNum_one pre (B2 ++ (c3 :: (c4 :: (tk ++ (au ++ post))))) c1
  rw [← q1] at r1
  have r2 := cTxt_text (pre ++ [c1]) (c3 :: (c4 :: (tk ++ (au ++ post)))) r g2
  have p2 : ((pre ++ [c1]).length : Int) = (pre.length : Int) + 1 := by simp only [List.length_append, List.length_singleton]; omega
  rw [← hc2, ← q2, p2] at r2
  have r3 := cNum_one (pre ++ [c1] ++ B2) (c4 :: (tk ++ (au ++ post))) c3
  have p3 : ((pre ++ [c1] ++ B2).length : Int) = (pre.length : Int) + 1 + r.size + 1 := by simp only [List.length_append, List.length_singleton, hl2]; omega
  rw [← q3, p3] at r3
  have r4 := cNum_one (pre ++ [c1] ++ B2 ++ [c3]) (tk ++ (au ++ post)) c4
  have p4 : ((pre ++ [c1] ++ B2 ++ [c3]).length : Int) = (pre.length : Int) + 1 + r.size + 1 + 1 := by simp only [List.length_append, List.length_singleton, hl2]; omega
  rw [← q4, p4] at r4
  have r5 := cByt_at (pre ++ [c1] ++ B2 ++ [c3] ++ [c4]) tk (au ++ post) (tk.length : Int) g5
  have p5 : ((pre ++ [c1] ++ B2 ++ [c3] ++ [c4]).length : Int) = (pre.length : Int) + 1 + r.size + 1 + 1 + 1 := by simp only [List.length_append, List.length_singleton, hl2]; omega
  rw [← q5, p5] at r5
  have r6 := cByt_at (pre ++ [c1] ++ B2 ++ [c3] ++ [c4] ++ tk) au post (au.length : Int) g6
  have p6 : ((pre ++ [c1] ++ B2 ++ [c3] ++ [c4] ++ tk).length : Int) = (pre.length : Int) + 1 + r.size + 1 + 1 + 1 + (tk.length : Int) := by simp only [List.length_append, List.length_singleton, hl2]; omega
  rw [← q6, p6] at r6
  rw [← hb]
  unfold apR
  simp only [r1, r2, r3, r4, r5, r6, hu1, hu3, hu4]
/-- What is read of the fields. -/
def apRr (b : List UInt8) (lt : Bool) (s0 : Int × Bool) : Int × ByteArray × Int × Int × List UInt8 × List UInt8 × Bool :=
  let y1 := rNum b 1 false s0
  let y2 := rTxt b y1.2
  let y3 := rNum b 1 false y2.2
  let y4 := rNum b 1 false y3.2
  let y5 := rByt b y3.1 y4.2
  let y6 := rByt b y4.1 y5.2
  (y1.1, y2.1, y3.1, y4.1, y5.1, y6.1, y6.2.2)
theorem apRr_ok (pre post : List UInt8) (lt : Bool) (mu : Bool) (kv : Int) (r : ByteArray) (tk : List UInt8) (au : List UInt8) (g1 : 0 ≤ kv ∧ kv ≤ 255) (g2 : plainB r) (g3 : 0 ≤ (tk.length : Int) ∧ (tk.length : Int) ≤ 255) (g4 : 0 ≤ (au.length : Int) ∧ (au.length : Int) ≤ 255) (g5 : (tk.length : Int) = (tk.length : Int)) (g6 : (au.length : Int) = (au.length : Int)) : apRr (pre ++ (apF lt mu kv r tk au ++ post)) lt (pre.length, false) = (kv, r, (tk.length : Int), (au.length : Int), tk, au, false) := by
  obtain ⟨b, hb⟩ : ∃ b, b = pre ++ (apF lt mu kv r tk au ++ post) := ⟨_, rfl⟩
  obtain ⟨c1, hc1⟩ : ∃ c, c = u8 kv := ⟨_, rfl⟩
  have hu1 : (c1.toNat : Int) = kv := by rw [hc1, u8_toNat]; omega
  obtain ⟨B2, hc2⟩ : ∃ B, B = textB r := ⟨_, rfl⟩
  have hl2 : B2.length = (r.size + 1) := by rw [hc2]; simp only [prinB_length, numB_length, textB_length]
  obtain ⟨c3, hc3⟩ : ∃ c, c = u8 (tk.length : Int) := ⟨_, rfl⟩
  have hu3 : (c3.toNat : Int) = (tk.length : Int) := by rw [hc3, u8_toNat]; omega
  obtain ⟨c4, hc4⟩ : ∃ c, c = u8 (au.length : Int) := ⟨_, rfl⟩
  have hu4 : (c4.toNat : Int) = (au.length : Int) := by rw [hc4, u8_toNat]; omega
  have q1 : b = pre ++ (c1 :: (B2 ++ (c3 :: (c4 :: (tk ++ (au ++ post)))))) := by rw [hb, hc1, hc2, hc3, hc4]; simp [apF]
  have q2 : b = (pre ++ [c1]) ++ (B2 ++ (c3 :: (c4 :: (tk ++ (au ++ post))))) := by rw [q1]; simp
  have q3 : b = (pre ++ [c1] ++ B2) ++ (c3 :: (c4 :: (tk ++ (au ++ post)))) := by rw [q1]; simp
  have q4 : b = (pre ++ [c1] ++ B2 ++ [c3]) ++ (c4 :: (tk ++ (au ++ post))) := by rw [q1]; simp
  have q5 : b = (pre ++ [c1] ++ B2 ++ [c3] ++ [c4]) ++ (tk ++ (au ++ post)) := by rw [q1]; simp
  have q6 : b = (pre ++ [c1] ++ B2 ++ [c3] ++ [c4] ++ tk) ++ (au ++ post) := by rw [q1]; simp
  have r1 := rNum_one pre (B2 ++ (c3 :: (c4 :: (tk ++ (au ++ post))))) c1
  rw [← q1] at r1
  have r2 := rTxt_text (pre ++ [c1]) (c3 :: (c4 :: (tk ++ (au ++ post)))) r g2
  have p2 : ((pre ++ [c1]).length : Int) = (pre.length : Int) + 1 := by simp only [List.length_append, List.length_singleton]; omega
  rw [← hc2, ← q2, p2] at r2
  have r3 := rNum_one (pre ++ [c1] ++ B2) (c4 :: (tk ++ (au ++ post))) c3
  have p3 : ((pre ++ [c1] ++ B2).length : Int) = (pre.length : Int) + 1 + r.size + 1 := by simp only [List.length_append, List.length_singleton, hl2]; omega
  rw [← q3, p3] at r3
  have r4 := rNum_one (pre ++ [c1] ++ B2 ++ [c3]) (tk ++ (au ++ post)) c4
  have p4 : ((pre ++ [c1] ++ B2 ++ [c3]).length : Int) = (pre.length : Int) + 1 + r.size + 1 + 1 := by simp only [List.length_append, List.length_singleton, hl2]; omega
  rw [← q4, p4] at r4
  have r5 := rByt_at (pre ++ [c1] ++ B2 ++ [c3] ++ [c4]) tk (au ++ post) (tk.length : Int) g5
  have p5 : ((pre ++ [c1] ++ B2 ++ [c3] ++ [c4]).length : Int) = (pre.length : Int) + 1 + r.size + 1 + 1 + 1 := by simp only [List.length_append, List.length_singleton, hl2]; omega
  rw [← q5, p5] at r5
  have r6 := rByt_at (pre ++ [c1] ++ B2 ++ [c3] ++ [c4] ++ tk) au post (au.length : Int) g6
  have p6 : ((pre ++ [c1] ++ B2 ++ [c3] ++ [c4] ++ tk).length : Int) = (pre.length : Int) + 1 + r.size + 1 + 1 + 1 + (tk.length : Int) := by simp only [List.length_append, List.length_singleton, hl2]; omega
  rw [← q6, p6] at r6
  rw [← hb]
  unfold apRr
  simp only [r1, r2, r3, r4, r5, r6, hu1, hu3, hu4]
/-- These bytes are those of this message. -/
def apIs (b : List UInt8) (lt mu : Bool) (kv : Int) (r : ByteArray) (tk au : List UInt8) : Prop := apOk lt mu kv r tk au ∧ apB lt mu kv r tk au = b
theorem apIs.read {b : List UInt8} {lt : Bool} {mu : Bool} {kv : Int} {r : ByteArray} {tk : List UInt8} {au : List UInt8} (h : apIs b lt mu kv r tk au) : apR b lt (2, false) = (kv, r, (tk.length : Int), (au.length : Int), tk, au, false) := by
  obtain ⟨h1, rfl⟩ := h
  have hc := apChk_ok (apOk_chk h1)
  obtain ⟨c1, c2, c3, c4⟩ := hc
  have := apR_ok (hdB (apK mu) lt) ([]) lt mu kv r tk au (c2) (realmB_plain c1) (⟨by omega, by omega⟩) (⟨by omega, by omega⟩) (rfl) (rfl)
  rw [List.append_nil, show ((hdB (apK mu) lt).length : Int) = 2 from rfl] at this
  exact this
theorem apIs.rread {b : List UInt8} {lt : Bool} {mu : Bool} {kv : Int} {r : ByteArray} {tk : List UInt8} {au : List UInt8} (h : apIs b lt mu kv r tk au) : apRr b lt (2, false) = (kv, r, (tk.length : Int), (au.length : Int), tk, au, false) := by
  obtain ⟨h1, rfl⟩ := h
  have hc := apChk_ok (apOk_chk h1)
  obtain ⟨c1, c2, c3, c4⟩ := hc
  have := apRr_ok (hdB (apK mu) lt) ([]) lt mu kv r tk au (c2) (realmB_plain c1) (⟨by omega, by omega⟩) (⟨by omega, by omega⟩) (rfl) (rfl)
  rw [List.append_nil, show ((hdB (apK mu) lt).length : Int) = 2 from rfl] at this
  exact this
theorem apIs.hd {b : List UInt8} {lt : Bool} {mu : Bool} {kv : Int} {r : ByteArray} {tk : List UInt8} {au : List UInt8} (h : apIs b lt mu kv r tk au) : hdIs b [3, 4] = (lt, 0) := by
  obtain ⟨_, rfl⟩ := h
  unfold apB
  exact (hdIs_put (apK_ok mu) _ _).trans (if_pos (by cases mu <;> decide))
theorem apIs.mu {b : List UInt8} {lt mu : Bool} {kv : Int} {r : ByteArray} {tk au : List UInt8} (h : apIs b lt mu kv r tk au) : decide ((hdIs b [4]).2 = 0) = mu := by
  obtain ⟨_, rfl⟩ := h
  unfold apB
  rw [hdIs_put (apK_ok mu)]
  cases mu <;> rfl
theorem apIs.inj {b : List UInt8} {lt : Bool} {mu : Bool} {kv : Int} {r : ByteArray} {tk : List UInt8} {au : List UInt8} {lt' : Bool} {mu' : Bool} {kv' : Int} {r' : ByteArray} {tk' : List UInt8} {au' : List UInt8} (h : apIs b lt mu kv r tk au) (h' : apIs b lt' mu' kv' r' tk' au') : lt = lt' ∧ mu = mu' ∧ kv = kv' ∧ r = r' ∧ tk = tk' ∧ au = au' := by
  have e := h.hd.symm.trans h'.hd
  simp only [Prod.mk.injEq, and_true] at e
  subst e
  have := h.read.symm.trans h'.read
  simp only [Prod.mk.injEq] at this
  obtain ⟨a0, a1, a2, a3, a4, a5, _⟩ := this
  exact ⟨rfl, (h.mu.symm.trans h'.mu), a0, a1, a4, a5⟩
def apZ : AV := .st [.raw (.bool false), .raw (.bool false), .raw (.int .i64 0), .raw (.string ⟨#[]⟩), .lst 1 [], .lst 1 []]
def apErr (b : List UInt8) : Int := if (hdIs b [3, 4]).2 = 0 then 100 else (hdIs b [3, 4]).2
/-- What the decoder answers. -/
def apDec (b : List UInt8) (d : AV) : Prop :=
  (∃ lt mu kv r tk au, apIs b lt mu kv r tk au ∧ d = .tup [apA lt mu kv r tk au, .raw (.int .i64 0)]) ∨
  ((∀ lt mu kv r tk au, ¬ apIs b lt mu kv r tk au) ∧ d = .tup [apZ, .raw (.int .i64 (apErr b))])
theorem apDec.unique {b : List UInt8} {d d' : AV} (h : apDec b d) (h' : apDec b d') : d = d' := by
  rcases h with ⟨lt, mu, kv, r, tk, au, h1, rfl⟩ | ⟨h1, rfl⟩
  · rcases h' with ⟨lt', mu', kv', r', tk', au', h2, rfl⟩ | ⟨h2, rfl⟩
    · obtain ⟨rfl, rfl, rfl, rfl, rfl, rfl⟩ := h1.inj h2
      rfl
    · exact absurd h1 (h2 _ _ _ _ _ _)
  · rcases h' with ⟨lt', mu', kv', r', tk', au', h2, rfl⟩ | ⟨h2, rfl⟩
    · exact absurd h2 (h1 _ _ _ _ _ _)
    · rfl
theorem apDec.of {b : List UInt8} {lt : Bool} {mu : Bool} {kv : Int} {r : ByteArray} {tk : List UInt8} {au : List UInt8} {d : AV} (h : apDec b d) (h1 : apIs b lt mu kv r tk au) : d = .tup [apA lt mu kv r tk au, .raw (.int .i64 0)] := h.unique (.inl ⟨_, _, _, _, _, _, h1, rfl⟩)
theorem outside10_pure (n m : Int) : PC Tryz.prog 157 [.raw (.int .i64 n), .raw (.int .i64 m)] (.raw (.bool (decide (n < 0 ∨ n > m)))) := by
  refine PC.of_ac ?_
  refine AC.of_body (M := []) Tryz.func157 rfl (by kernel_rfl) (Nat.le_of_ble_eq_true rfl) ?_; simp only [Tryz.results157, Tryz.ntmps157]
  by_cases h : n < 0
  · simp (dsimp := false) only [go_sem, ↓reduceIte, Nat.reduceEqDiff, Nat.reduceLT, Nat.reduceAdd, Nat.reduceSub, Nat.reduceMul, Nat.reduceLeDiff, reduceCtorEq, Int.reduceNeg, Int.reduceToNat, Int.reduceLT, Int.reduceLE, Int.reduceGE, Int.reduceGT, Int.reduceEq, h]
  · simp (dsimp := false) only [go_sem, ↓reduceIte, Nat.reduceEqDiff, Nat.reduceLT, Nat.reduceAdd, Nat.reduceSub, Nat.reduceMul, Nat.reduceLeDiff, reduceCtorEq, Int.reduceNeg, Int.reduceToNat, Int.reduceLT, Int.reduceLE, Int.reduceGE, Int.reduceGT, Int.reduceEq, h]
theorem within10_pure (n m : Int) : PC Tryz.prog 98 [.raw (.int .i64 n), .raw (.int .i64 m)] (.raw (.bool (decide (n ≥ 0 ∧ n ≤ m)))) := by
  refine PC.of_ac ?_
  refine AC.of_body (M := []) Tryz.func98 rfl (by kernel_rfl) (Nat.le_of_ble_eq_true rfl) ?_; simp only [Tryz.results98, Tryz.ntmps98]
  by_cases h : n ≥ 0
  · simp (dsimp := false) only [go_sem, ↓reduceIte, Nat.reduceEqDiff, Nat.reduceLT, Nat.reduceAdd, Nat.reduceSub, Nat.reduceMul, Nat.reduceLeDiff, reduceCtorEq, Int.reduceNeg, Int.reduceToNat, Int.reduceLT, Int.reduceLE, Int.reduceGE, Int.reduceGT, Int.reduceEq, h]
  · simp (dsimp := false) only [go_sem, ↓reduceIte, Nat.reduceEqDiff, Nat.reduceLT, Nat.reduceAdd, Nat.reduceSub, Nat.reduceMul, Nat.reduceLeDiff, reduceCtorEq, Int.reduceNeg, Int.reduceToNat, Int.reduceLT, Int.reduceLE, Int.reduceGE, Int.reduceGT, Int.reduceEq, h]
set_option maxHeartbeats 8000000 in
theorem apEncode_pure (lt mu : Bool) (kv : Int) (r : ByteArray) (tk au : List UInt8) (zr : r.size ≤ 100000) (ztk : tk.length ≤ 100000) (zau : au.length ≤ 100000) :
    PC Tryz.prog 93 [apA lt mu kv r tk au] (apE lt mu kv r tk au) := by
  refine PC.post ?_
  obtain ⟨b0, e0⟩ : ∃ b, b = hdB (apK mu) lt := ⟨_, rfl⟩
  have l0 : b0.length = 2 := by rw [e0]; rfl
  obtain ⟨b1, e1⟩ : ∃ b, b0 ++ [u8 kv] = b := ⟨_, rfl⟩
  have l1 : b1.length = b0.length + 1 := by rw [← e1, List.length_append] <;> first | rfl | simp only [prinB_length, numB_length, textB_length]
  obtain ⟨b2, e2⟩ : ∃ b, b1 ++ textB r = b := ⟨_, rfl⟩
  have l2 : b2.length = b1.length + (r.size + 1) := by rw [← e2, List.length_append] <;> first | rfl | simp only [prinB_length, numB_length, textB_length]
  obtain ⟨b3, e3⟩ : ∃ b, b2 ++ [u8 (tk.length : Int)] = b := ⟨_, rfl⟩
  have l3 : b3.length = b2.length + 1 := by rw [← e3, List.length_append] <;> first | rfl | simp only [prinB_length, numB_length, textB_length]
  obtain ⟨b4, e4⟩ : ∃ b, b3 ++ [u8 (au.length : Int)] = b := ⟨_, rfl⟩
  have l4 : b4.length = b3.length + 1 := by rw [← e4, List.length_append] <;> first | rfl | simp only [prinB_length, numB_length, textB_length]
  obtain ⟨b5, e5⟩ : ∃ b, b4 ++ tk = b := ⟨_, rfl⟩
  have l5 : b5.length = b4.length + tk.length := by rw [← e5, List.length_append] <;> first | rfl | simp only [prinB_length, numB_length, textB_length]
  obtain ⟨b6, e6⟩ : ∃ b, b5 ++ au = b := ⟨_, rfl⟩
  have l6 : b6.length = b5.length + au.length := by rw [← e6, List.length_append] <;> first | rfl | simp only [prinB_length, numB_length, textB_length]
  have hfin : apB lt mu kv r tk au = b6 := by rw [apB, apF, ← e6, ← e5, ← e4, ← e3, ← e2, ← e1, e0]; simp only [List.append_assoc]
  have p1 := PutOctet_pure b0 kv (by omega)
  rw [e1] at p1
  have p2 := PutText_pure b1 r (by omega)
  rw [e2] at p2
  have p3 := PutOctet_pure b2 (tk.length : Int) (by omega)
  rw [e3] at p3
  have p4 := PutOctet_pure b3 (au.length : Int) (by omega)
  rw [e4] at p4
  have pH := hdPut_pure (apK mu) lt (apK_ok mu)
  rw [← e0] at pH
  have k3 : apK false = 3 := rfl
  have k4 : apK true = 4 := rfl
  unfold apA
  refine AC.of_body (M := []) Tryz.func93 rfl (by kernel_rfl) (Nat.le_of_ble_eq_true rfl) ?_; simp only [Tryz.results93, Tryz.ntmps93]
  simp (dsimp := false) only [go_sem, ↓reduceIte, Nat.reduceEqDiff, Nat.reduceLT, Nat.reduceAdd, Nat.reduceSub, Nat.reduceMul, Nat.reduceLeDiff, reduceCtorEq, Int.reduceNeg, Int.reduceToNat, Int.reduceLT, Int.reduceLE, Int.reduceGE, Int.reduceGT, Int.reduceEq]
  refine ACs.pure (ValidRealm_pure r (by omega)) ?_
  rcases Bool.eq_false_or_eq_true (realmB r) with h0_0 | h0_0
  · simp (dsimp := false) only [go_sem, ↓reduceIte, Nat.reduceEqDiff, Nat.reduceLT, Nat.reduceAdd, Nat.reduceSub, Nat.reduceMul, Nat.reduceLeDiff, reduceCtorEq, Int.reduceNeg, Int.reduceToNat, Int.reduceLT, Int.reduceLE, Int.reduceGE, Int.reduceGT, Int.reduceEq, h0_0]
    refine ACs.pure (outside10_pure kv _) ?_
    by_cases h1_0 : kv < 0 ∨ kv > 255
    · simp (dsimp := false) only [go_sem, ↓reduceIte, Nat.reduceEqDiff, Nat.reduceLT, Nat.reduceAdd, Nat.reduceSub, Nat.reduceMul, Nat.reduceLeDiff, reduceCtorEq, Int.reduceNeg, Int.reduceToNat, Int.reduceLT, Int.reduceLE, Int.reduceGE, Int.reduceGT, Int.reduceEq, h1_0]
      have hC : apChk lt mu kv r tk au = 104 := by rw [apChk, if_neg (by simp [h0_0]), if_pos (by omega)]
      refine ⟨noOwn, ?_⟩
      rw [apE, hC, if_neg (by decide)]
      exact Weak1.nil2
    · simp (dsimp := false) only [go_sem, ↓reduceIte, Nat.reduceEqDiff, Nat.reduceLT, Nat.reduceAdd, Nat.reduceSub, Nat.reduceMul, Nat.reduceLeDiff, reduceCtorEq, Int.reduceNeg, Int.reduceToNat, Int.reduceLT, Int.reduceLE, Int.reduceGE, Int.reduceGT, Int.reduceEq, h1_0]
      by_cases h2_0 : (tk.length : Int) > 255
      · simp (dsimp := false) only [go_sem, ↓reduceIte, Nat.reduceEqDiff, Nat.reduceLT, Nat.reduceAdd, Nat.reduceSub, Nat.reduceMul, Nat.reduceLeDiff, reduceCtorEq, Int.reduceNeg, Int.reduceToNat, Int.reduceLT, Int.reduceLE, Int.reduceGE, Int.reduceGT, Int.reduceEq, h2_0]
        have hC : apChk lt mu kv r tk au = 105 := by rw [apChk, if_neg (by simp [h0_0]), if_neg (by omega), if_pos (by first | omega | (simp [h2_0]; done))]
        refine ⟨noOwn, ?_⟩
        rw [apE, hC, if_neg (by decide)]
        exact Weak1.nil2
      · simp (dsimp := false) only [go_sem, ↓reduceIte, Nat.reduceEqDiff, Nat.reduceLT, Nat.reduceAdd, Nat.reduceSub, Nat.reduceMul, Nat.reduceLeDiff, reduceCtorEq, Int.reduceNeg, Int.reduceToNat, Int.reduceLT, Int.reduceLE, Int.reduceGE, Int.reduceGT, Int.reduceEq, h2_0]
        by_cases h2_1 : (au.length : Int) > 255
        · simp (dsimp := false) only [go_sem, ↓reduceIte, Nat.reduceEqDiff, Nat.reduceLT, Nat.reduceAdd, Nat.reduceSub, Nat.reduceMul, Nat.reduceLeDiff, reduceCtorEq, Int.reduceNeg, Int.reduceToNat, Int.reduceLT, Int.reduceLE, Int.reduceGE, Int.reduceGT, Int.reduceEq, h2_1]
          have hC : apChk lt mu kv r tk au = 105 := by rw [apChk, if_neg (by simp [h0_0]), if_neg (by omega), if_pos (by first | omega | (simp [h2_1]; done))]
          refine ⟨noOwn, ?_⟩
          rw [apE, hC, if_neg (by decide)]
          exact Weak1.nil2
        · simp (dsimp := false) only [go_sem, ↓reduceIte, Nat.reduceEqDiff, Nat.reduceLT, Nat.reduceAdd, Nat.reduceSub, Nat.reduceMul, Nat.reduceLeDiff, reduceCtorEq, Int.reduceNeg, Int.reduceToNat, Int.reduceLT, Int.reduceLE, Int.reduceGE, Int.reduceGT, Int.reduceEq, h2_1]
          have hC : apChk lt mu kv r tk au = 0 := by rw [apChk, if_neg (by simp [h0_0]), if_neg (by omega), if_neg (by omega)]
          cases mu
          all_goals
            (try simp (dsimp := false) only [go_sem, ↓reduceIte, Nat.reduceEqDiff, Nat.reduceLT, Nat.reduceAdd, Nat.reduceSub, Nat.reduceMul, Nat.reduceLeDiff, reduceCtorEq, Int.reduceNeg, Int.reduceToNat, Int.reduceLT, Int.reduceLE, Int.reduceGE, Int.reduceGT, Int.reduceEq])
            (try refine AW.draw (M := []) [.v, .v, .v, .e, .v, .v, .e, .v, .v, .e, .v] mixed (by kernel_rfl) ?_)
            (try simp (dsimp := false) only [go_sem, ↓reduceIte, Nat.reduceEqDiff, Nat.reduceLT, Nat.reduceAdd, Nat.reduceSub, Nat.reduceMul, Nat.reduceLeDiff, reduceCtorEq, Int.reduceNeg, Int.reduceToNat, Int.reduceLT, Int.reduceLE, Int.reduceGE, Int.reduceGT, Int.reduceEq])
            refine ACs.pure pH ?_
            (try simp (dsimp := false) only [go_sem, ↓reduceIte, Nat.reduceEqDiff, Nat.reduceLT, Nat.reduceAdd, Nat.reduceSub, Nat.reduceMul, Nat.reduceLeDiff, reduceCtorEq, Int.reduceNeg, Int.reduceToNat, Int.reduceLT, Int.reduceLE, Int.reduceGE, Int.reduceGT, Int.reduceEq])
            refine ACs.pure p1 ?_
            (try simp (dsimp := false) only [go_sem, ↓reduceIte, Nat.reduceEqDiff, Nat.reduceLT, Nat.reduceAdd, Nat.reduceSub, Nat.reduceMul, Nat.reduceLeDiff, reduceCtorEq, Int.reduceNeg, Int.reduceToNat, Int.reduceLT, Int.reduceLE, Int.reduceGE, Int.reduceGT, Int.reduceEq])
            refine ACs.pure p2 ?_
            (try simp (dsimp := false) only [go_sem, ↓reduceIte, Nat.reduceEqDiff, Nat.reduceLT, Nat.reduceAdd, Nat.reduceSub, Nat.reduceMul, Nat.reduceLeDiff, reduceCtorEq, Int.reduceNeg, Int.reduceToNat, Int.reduceLT, Int.reduceLE, Int.reduceGE, Int.reduceGT, Int.reduceEq])
            (try refine AW.draw (M := []) [.v, .v, .v, .v, .e, .v, .v, .v, .e, .v] mixed (by kernel_rfl) ?_)
            (try simp (dsimp := false) only [go_sem, ↓reduceIte, Nat.reduceEqDiff, Nat.reduceLT, Nat.reduceAdd, Nat.reduceSub, Nat.reduceMul, Nat.reduceLeDiff, reduceCtorEq, Int.reduceNeg, Int.reduceToNat, Int.reduceLT, Int.reduceLE, Int.reduceGE, Int.reduceGT, Int.reduceEq])
            refine ACs.pure p3 ?_
            (try simp (dsimp := false) only [go_sem, ↓reduceIte, Nat.reduceEqDiff, Nat.reduceLT, Nat.reduceAdd, Nat.reduceSub, Nat.reduceMul, Nat.reduceLeDiff, reduceCtorEq, Int.reduceNeg, Int.reduceToNat, Int.reduceLT, Int.reduceLE, Int.reduceGE, Int.reduceGT, Int.reduceEq])
            refine ACs.of (PutOctet_own b3 (au.length : Int) (by omega) _ _ ⟨fun h0 => absurd h0 (by rw [e4]; omega), fun k1 c1 hk1 hc1 => ?_⟩)
            rw [e4] at hc1
            simp only [e4]
            (try simp (dsimp := false) only [go_sem, ↓reduceIte, Nat.reduceEqDiff, Nat.reduceLT, Nat.reduceAdd, Nat.reduceSub, Nat.reduceMul, Nat.reduceLeDiff, reduceCtorEq, Int.reduceNeg, Int.reduceToNat, Int.reduceLT, Int.reduceLE, Int.reduceGE, Int.reduceGT, Int.reduceEq])
            (try refine AW.draw (M := []) [.v, .v, .v, .e, .v, .v, .e, .v, .v] mixed (by kernel_rfl) ?_)
            have hcs : b4.map byteA ++ tk.map byteA = b5.map byteA := by rw [← e5, List.map_append]
            have hcs2 : b5.map byteA ++ au.map byteA = b6.map byteA := by rw [← e6, List.map_append]
            simp (dsimp := false) only [go_sem, ↓reduceIte, Nat.reduceEqDiff, Nat.reduceLT, Nat.reduceAdd, Nat.reduceSub, Nat.reduceMul, Nat.reduceLeDiff, reduceCtorEq, Int.reduceNeg, Int.reduceToNat, Int.reduceLT, Int.reduceLE, Int.reduceGE, Int.reduceGT, Int.reduceEq, flat_byte, hcs, hcs2]
            refine ⟨okA_bytes tk, by omega, by omega, fun k2 c2 hk2 hc2 => ⟨okA_bytes au, by omega, by omega, by omega, fun k3 c3 hk3 hc3 => ?_⟩⟩
            have hm1 := fun o o' => Own.set_move hk1 k2 o o'
            have hk2' := Own.set_none hk1 hk2
            have hm2 := fun o o' => Own.set_move hk2' k3 o o'
            rw [hm1, hm2]
            rw [apE, hC, if_pos rfl, hfin]
            exact ⟨_, Weak1.tup (Weak.one (pre := []) (rowW _ k3 c3 c3 _ b6 [] (by rw [List.append_nil]; exact Own.set_same _ _ _) (by omega) (by omega) (by omega)))⟩
  · simp (dsimp := false) only [go_sem, ↓reduceIte, Nat.reduceEqDiff, Nat.reduceLT, Nat.reduceAdd, Nat.reduceSub, Nat.reduceMul, Nat.reduceLeDiff, reduceCtorEq, Int.reduceNeg, Int.reduceToNat, Int.reduceLT, Int.reduceLE, Int.reduceGE, Int.reduceGT, Int.reduceEq, h0_0]
    have hC : apChk lt mu kv r tk au = 103 := by rw [apChk, if_pos (by simp [h0_0])]
    refine ⟨noOwn, ?_⟩
    rw [apE, hC, if_neg (by decide)]
    exact Weak1.nil2
set_option maxHeartbeats 8000000 in
theorem rapEncode_pure (lt mu : Bool) (kv : Int) (r : ByteArray) (tk au : List UInt8) (zr : r.size ≤ 100000) (ztk : tk.length ≤ 100000) (zau : au.length ≤ 100000) :
    PC Tryz.prog 29 [apA lt mu kv r tk au] (apE lt mu kv r tk au) := by
  refine PC.post ?_
  obtain ⟨b0, e0⟩ : ∃ b, b = hdB (apK mu) lt := ⟨_, rfl⟩
  have l0 : b0.length = 2 := by rw [e0]; rfl
  obtain ⟨b1, e1⟩ : ∃ b, b0 ++ [u8 kv] = b := ⟨_, rfl⟩
  have l1 : b1.length = b0.length + 1 := by rw [← e1, List.length_append] <;> first | rfl | simp only [prinB_length, numB_length, textB_length]
  obtain ⟨b2, e2⟩ : ∃ b, b1 ++ textB r = b := ⟨_, rfl⟩
  have l2 : b2.length = b1.length + (r.size + 1) := by rw [← e2, List.length_append] <;> first | rfl | simp only [prinB_length, numB_length, textB_length]
  obtain ⟨b3, e3⟩ : ∃ b, b2 ++ [u8 (tk.length : Int)] = b := ⟨_, rfl⟩
  have l3 : b3.length = b2.length + 1 := by rw [← e3, List.length_append] <;> first | rfl | simp only [prinB_length, numB_length, textB_length]
  obtain ⟨b4, e4⟩ : ∃ b, b3 ++ [u8 (au.length : Int)] = b := ⟨_, rfl⟩
  have l4 : b4.length = b3.length + 1 := by rw [← e4, List.length_append] <;> first | rfl | simp only [prinB_length, numB_length, textB_length]
  obtain ⟨b5, e5⟩ : ∃ b, b4 ++ tk = b := ⟨_, rfl⟩
  have l5 : b5.length = b4.length + tk.length := by rw [← e5, List.length_append] <;> first | rfl | simp only [prinB_length, numB_length, textB_length]
  obtain ⟨b6, e6⟩ : ∃ b, b5 ++ au = b := ⟨_, rfl⟩
  have l6 : b6.length = b5.length + au.length := by rw [← e6, List.length_append] <;> first | rfl | simp only [prinB_length, numB_length, textB_length]
  have hfin : apB lt mu kv r tk au = b6 := by rw [apB, apF, ← e6, ← e5, ← e4, ← e3, ← e2, ← e1, e0]; simp only [List.append_assoc]
  have p1 := rPutOctet_pure b0 kv (by omega)
  rw [e1] at p1
  have p2 := rPutText_pure b1 r (by omega)
  rw [e2] at p2
  have p3 := rPutOctet_pure b2 (tk.length : Int) (by omega)
  rw [e3] at p3
  have p4 := rPutOctet_pure b3 (au.length : Int) (by omega)
  rw [e4] at p4
  have pH := rhdPut_pure (apK mu) lt (apK_ok mu)
  rw [← e0] at pH
  have k3 : apK false = 3 := rfl
  have k4 : apK true = 4 := rfl
  unfold apA
  refine AC.of_body (M := []) Tryz.func29 rfl (by kernel_rfl) (Nat.le_of_ble_eq_true rfl) ?_; simp only [Tryz.results29, Tryz.ntmps29]
  simp (dsimp := false) only [go_sem, ↓reduceIte, Nat.reduceEqDiff, Nat.reduceLT, Nat.reduceAdd, Nat.reduceSub, Nat.reduceMul, Nat.reduceLeDiff, reduceCtorEq, Int.reduceNeg, Int.reduceToNat, Int.reduceLT, Int.reduceLE, Int.reduceGE, Int.reduceGT, Int.reduceEq]
  refine ACs.pure (rValidRealm_pure r (by omega)) ?_
  rcases Bool.eq_false_or_eq_true (realmB r) with h0_0 | h0_0
  · simp (dsimp := false) only [go_sem, ↓reduceIte, Nat.reduceEqDiff, Nat.reduceLT, Nat.reduceAdd, Nat.reduceSub, Nat.reduceMul, Nat.reduceLeDiff, reduceCtorEq, Int.reduceNeg, Int.reduceToNat, Int.reduceLT, Int.reduceLE, Int.reduceGE, Int.reduceGT, Int.reduceEq, h0_0]
    refine ACs.pure (within10_pure kv _) ?_
    by_cases h1_0 : kv ≥ 0 ∧ kv ≤ 255
    rotate_left
    · simp (dsimp := false) only [go_sem, ↓reduceIte, Nat.reduceEqDiff, Nat.reduceLT, Nat.reduceAdd, Nat.reduceSub, Nat.reduceMul, Nat.reduceLeDiff, reduceCtorEq, Int.reduceNeg, Int.reduceToNat, Int.reduceLT, Int.reduceLE, Int.reduceGE, Int.reduceGT, Int.reduceEq, h1_0]
      have hC : apChk lt mu kv r tk au = 104 := by rw [apChk, if_neg (by simp [h0_0]), if_pos (by omega)]
      refine ⟨noOwn, ?_⟩
      rw [apE, hC, if_neg (by decide)]
      exact Weak1.nil2
    · simp (dsimp := false) only [go_sem, ↓reduceIte, Nat.reduceEqDiff, Nat.reduceLT, Nat.reduceAdd, Nat.reduceSub, Nat.reduceMul, Nat.reduceLeDiff, reduceCtorEq, Int.reduceNeg, Int.reduceToNat, Int.reduceLT, Int.reduceLE, Int.reduceGE, Int.reduceGT, Int.reduceEq, h1_0]
      by_cases h2_0 : (tk.length : Int) > 255
      · simp (dsimp := false) only [go_sem, ↓reduceIte, Nat.reduceEqDiff, Nat.reduceLT, Nat.reduceAdd, Nat.reduceSub, Nat.reduceMul, Nat.reduceLeDiff, reduceCtorEq, Int.reduceNeg, Int.reduceToNat, Int.reduceLT, Int.reduceLE, Int.reduceGE, Int.reduceGT, Int.reduceEq, h2_0]
        have hC : apChk lt mu kv r tk au = 105 := by rw [apChk, if_neg (by simp [h0_0]), if_neg (by omega), if_pos (by first | omega | (simp [h2_0]; done))]
        refine ⟨noOwn, ?_⟩
        rw [apE, hC, if_neg (by decide)]
        exact Weak1.nil2
      · simp (dsimp := false) only [go_sem, ↓reduceIte, Nat.reduceEqDiff, Nat.reduceLT, Nat.reduceAdd, Nat.reduceSub, Nat.reduceMul, Nat.reduceLeDiff, reduceCtorEq, Int.reduceNeg, Int.reduceToNat, Int.reduceLT, Int.reduceLE, Int.reduceGE, Int.reduceGT, Int.reduceEq, h2_0]
        by_cases h2_1 : (au.length : Int) > 255
        · simp (dsimp := false) only [go_sem, ↓reduceIte, Nat.reduceEqDiff, Nat.reduceLT, Nat.reduceAdd, Nat.reduceSub, Nat.reduceMul, Nat.reduceLeDiff, reduceCtorEq, Int.reduceNeg, Int.reduceToNat, Int.reduceLT, Int.reduceLE, Int.reduceGE, Int.reduceGT, Int.reduceEq, h2_1]
          have hC : apChk lt mu kv r tk au = 105 := by rw [apChk, if_neg (by simp [h0_0]), if_neg (by omega), if_pos (by first | omega | (simp [h2_1]; done))]
          refine ⟨noOwn, ?_⟩
          rw [apE, hC, if_neg (by decide)]
          exact Weak1.nil2
        · simp (dsimp := false) only [go_sem, ↓reduceIte, Nat.reduceEqDiff, Nat.reduceLT, Nat.reduceAdd, Nat.reduceSub, Nat.reduceMul, Nat.reduceLeDiff, reduceCtorEq, Int.reduceNeg, Int.reduceToNat, Int.reduceLT, Int.reduceLE, Int.reduceGE, Int.reduceGT, Int.reduceEq, h2_1]
          have hC : apChk lt mu kv r tk au = 0 := by rw [apChk, if_neg (by simp [h0_0]), if_neg (by omega), if_neg (by omega)]
          cases mu
          all_goals
            (try simp (dsimp := false) only [go_sem, ↓reduceIte, Nat.reduceEqDiff, Nat.reduceLT, Nat.reduceAdd, Nat.reduceSub, Nat.reduceMul, Nat.reduceLeDiff, reduceCtorEq, Int.reduceNeg, Int.reduceToNat, Int.reduceLT, Int.reduceLE, Int.reduceGE, Int.reduceGT, Int.reduceEq])
            (try refine AW.draw (M := []) [.v, .v, .v, .e, .v, .v, .e, .v] mixed (by kernel_rfl) ?_)
            (try simp (dsimp := false) only [go_sem, ↓reduceIte, Nat.reduceEqDiff, Nat.reduceLT, Nat.reduceAdd, Nat.reduceSub, Nat.reduceMul, Nat.reduceLeDiff, reduceCtorEq, Int.reduceNeg, Int.reduceToNat, Int.reduceLT, Int.reduceLE, Int.reduceGE, Int.reduceGT, Int.reduceEq])
            refine ACs.pure pH ?_
            (try simp (dsimp := false) only [go_sem, ↓reduceIte, Nat.reduceEqDiff, Nat.reduceLT, Nat.reduceAdd, Nat.reduceSub, Nat.reduceMul, Nat.reduceLeDiff, reduceCtorEq, Int.reduceNeg, Int.reduceToNat, Int.reduceLT, Int.reduceLE, Int.reduceGE, Int.reduceGT, Int.reduceEq])
            refine ACs.pure p1 ?_
            (try simp (dsimp := false) only [go_sem, ↓reduceIte, Nat.reduceEqDiff, Nat.reduceLT, Nat.reduceAdd, Nat.reduceSub, Nat.reduceMul, Nat.reduceLeDiff, reduceCtorEq, Int.reduceNeg, Int.reduceToNat, Int.reduceLT, Int.reduceLE, Int.reduceGE, Int.reduceGT, Int.reduceEq])
            (try refine AW.draw (M := []) [.v, .v, .v, .e, .v] mixed (by kernel_rfl) ?_)
            (try simp (dsimp := false) only [go_sem, ↓reduceIte, Nat.reduceEqDiff, Nat.reduceLT, Nat.reduceAdd, Nat.reduceSub, Nat.reduceMul, Nat.reduceLeDiff, reduceCtorEq, Int.reduceNeg, Int.reduceToNat, Int.reduceLT, Int.reduceLE, Int.reduceGE, Int.reduceGT, Int.reduceEq])
            refine ACs.pure p2 ?_
            (try simp (dsimp := false) only [go_sem, ↓reduceIte, Nat.reduceEqDiff, Nat.reduceLT, Nat.reduceAdd, Nat.reduceSub, Nat.reduceMul, Nat.reduceLeDiff, reduceCtorEq, Int.reduceNeg, Int.reduceToNat, Int.reduceLT, Int.reduceLE, Int.reduceGE, Int.reduceGT, Int.reduceEq])
            (try refine AW.draw (M := []) [.v, .v, .v, .v, .e, .v, .v, .v, .e, .v] mixed (by kernel_rfl) ?_)
            (try simp (dsimp := false) only [go_sem, ↓reduceIte, Nat.reduceEqDiff, Nat.reduceLT, Nat.reduceAdd, Nat.reduceSub, Nat.reduceMul, Nat.reduceLeDiff, reduceCtorEq, Int.reduceNeg, Int.reduceToNat, Int.reduceLT, Int.reduceLE, Int.reduceGE, Int.reduceGT, Int.reduceEq])
            refine ACs.pure p3 ?_
            (try simp (dsimp := false) only [go_sem, ↓reduceIte, Nat.reduceEqDiff, Nat.reduceLT, Nat.reduceAdd, Nat.reduceSub, Nat.reduceMul, Nat.reduceLeDiff, reduceCtorEq, Int.reduceNeg, Int.reduceToNat, Int.reduceLT, Int.reduceLE, Int.reduceGE, Int.reduceGT, Int.reduceEq])
            refine ACs.of (rPutOctet_own b3 (au.length : Int) (by omega) _ _ ⟨fun h0 => absurd h0 (by rw [e4]; omega), fun k1 c1 hk1 hc1 => ?_⟩)
            rw [e4] at hc1
            simp only [e4]
            (try simp (dsimp := false) only [go_sem, ↓reduceIte, Nat.reduceEqDiff, Nat.reduceLT, Nat.reduceAdd, Nat.reduceSub, Nat.reduceMul, Nat.reduceLeDiff, reduceCtorEq, Int.reduceNeg, Int.reduceToNat, Int.reduceLT, Int.reduceLE, Int.reduceGE, Int.reduceGT, Int.reduceEq])
            (try refine AW.draw (M := []) [.v, .v, .v, .e, .v, .v, .e, .v, .v] mixed (by kernel_rfl) ?_)
            have hcs : b4.map byteA ++ tk.map byteA = b5.map byteA := by rw [← e5, List.map_append]
            have hcs2 : b5.map byteA ++ au.map byteA = b6.map byteA := by rw [← e6, List.map_append]
            simp (dsimp := false) only [go_sem, ↓reduceIte, Nat.reduceEqDiff, Nat.reduceLT, Nat.reduceAdd, Nat.reduceSub, Nat.reduceMul, Nat.reduceLeDiff, reduceCtorEq, Int.reduceNeg, Int.reduceToNat, Int.reduceLT, Int.reduceLE, Int.reduceGE, Int.reduceGT, Int.reduceEq, flat_byte, hcs, hcs2]
            refine ⟨okA_bytes tk, by omega, by omega, fun k2 c2 hk2 hc2 => ⟨okA_bytes au, by omega, by omega, by omega, fun k3 c3 hk3 hc3 => ?_⟩⟩
            have hm1 := fun o o' => Own.set_move hk1 k2 o o'
            have hk2' := Own.set_none hk1 hk2
            have hm2 := fun o o' => Own.set_move hk2' k3 o o'
            rw [hm1, hm2]
            rw [apE, hC, if_pos rfl, hfin]
            exact ⟨_, Weak1.tup (Weak.one (pre := []) (rowW _ k3 c3 c3 _ b6 [] (by rw [List.append_nil]; exact Own.set_same _ _ _) (by omega) (by omega) (by omega)))⟩
  · simp (dsimp := false) only [go_sem, ↓reduceIte, Nat.reduceEqDiff, Nat.reduceLT, Nat.reduceAdd, Nat.reduceSub, Nat.reduceMul, Nat.reduceLeDiff, reduceCtorEq, Int.reduceNeg, Int.reduceToNat, Int.reduceLT, Int.reduceLE, Int.reduceGE, Int.reduceGT, Int.reduceEq, h0_0]
    have hC : apChk lt mu kv r tk au = 103 := by rw [apChk, if_pos (by simp [h0_0])]
    refine ⟨noOwn, ?_⟩
    rw [apE, hC, if_neg (by decide)]
    exact Weak1.nil2
end Go.Proofs.YtghnigbihllnmaaGreat.Fn
