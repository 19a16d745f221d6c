/- TGS requests. -/
import Derived.Test.YtghnigbihllnmaaGreatFn44
import Derived.Test.YtghnigbihllnmaaGreatFn28
set_option linter.unusedVariables false
set_option linter.unusedSimpArgs false
namespace Go.Proofs.YtghnigbihllnmaaGreat.Fn
open Go Hl Sp Ty
set_option maxRecDepth 100000
def tgsA (lt mu : Bool) (kv : Int) (r : ByteArray) (tk au : List UInt8) (tm li : Int) (s t : ByteArray) : AV := .st [.raw (.bool lt), .raw (.bool mu), .raw (.int .i64 kv), .raw (.string r), .lst 1 (tk.map byteA), .lst 1 (au.map byteA), .raw (.int .i64 tm), .raw (.int .i64 li), .raw (.string s), .raw (.string t)]
/-- The first error. -/
def tgsChk (lt mu : Bool) (kv : Int) (r : ByteArray) (tk au : List UInt8) (tm li : Int) (s t : ByteArray) : Int := if mu = true then 100 else if (realmB r) = false then 103 else if kv < 0 ∨ kv > 255 then 104 else if (tk.length : Int) > 255 ∨ (au.length : Int) > 255 then 105 else if (nameB s && instB t) = false then 103 else if tm < 0 ∨ tm > 4294967295 ∨ li < 0 ∨ li > 255 then 104 else 0
/-- The fields behind the header. -/
def tgsF (lt mu : Bool) (kv : Int) (r : ByteArray) (tk au : List UInt8) (tm li : Int) (s t : ByteArray) : List UInt8 := [u8 kv] ++ textB r ++ [u8 (tk.length : Int)] ++ [u8 (au.length : Int)] ++ tk ++ au ++ numB tm 4 lt ++ [u8 li] ++ textB s ++ textB t
def tgsB (lt mu : Bool) (kv : Int) (r : ByteArray) (tk au : List UInt8) (tm li : Int) (s t : ByteArray) : List UInt8 := hdB 3 lt ++ tgsF lt mu kv r tk au tm li s t
theorem tgsF_length (lt mu : Bool) (kv : Int) (r : ByteArray) (tk au : List UInt8) (tm li : Int) (s t : ByteArray) : (tgsF lt mu kv r tk au tm li s t).length = 1 + (r.size + 1) + 1 + 1 + tk.length + au.length + 4 + 1 + (s.size + 1) + (t.size + 1) := by
  simp only [tgsF, List.length_append, prinB_length, numB_length, textB_length, List.length_singleton] <;> omega
/-- What the encoder answers. -/
def tgsE (lt mu : Bool) (kv : Int) (r : ByteArray) (tk au : List UInt8) (tm li : Int) (s t : ByteArray) : AV := .tup [.lst 1 ((if tgsChk lt mu kv r tk au tm li s t = 0 then tgsB lt mu kv r tk au tm li s t else []).map byteA), .raw (.int .i64 (tgsChk lt mu kv r tk au tm li s t))]
theorem tgsChk_ok {lt : Bool} {mu : Bool} {kv : Int} {r : ByteArray} {tk : List UInt8} {au : List UInt8} {tm : Int} {li : Int} {s : ByteArray} {t : ByteArray} (h : tgsChk lt mu kv r tk au tm li s t = 0) : mu = false ∧ realmB r = true ∧ (0 ≤ kv ∧ kv ≤ 255) ∧ (tk.length : Int) ≤ 255 ∧ (au.length : Int) ≤ 255 ∧ nameB s = true ∧ instB t = true ∧ (0 ≤ tm ∧ tm ≤ 4294967295) ∧ (0 ≤ li ∧ li ≤ 255) := by
  unfold tgsChk at h
  split at h
  · cases h
  · rename_i h0
    split at h
    · cases h
    · rename_i h1
      have h1 : (realmB r) = true := (Bool.eq_false_or_eq_true _).resolve_right h1
      split at h
      · cases h
      · rename_i h2
        split at h
        · cases h
        · rename_i h3
          split at h
          · cases h
          · rename_i h4
            have h4 : (nameB s && instB t) = true := (Bool.eq_false_or_eq_true _).resolve_right h4
            simp only [Bool.and_eq_true] at h4
            split at h
            · cases h
            · rename_i h5
              exact ⟨((Bool.eq_false_or_eq_true _).resolve_left h0), h1, (by omega), (by omega), (by omega), h4.1, h4.2, (by omega), (by omega)⟩
/-- Without errors. -/
def tgsOk (lt mu : Bool) (kv : Int) (r : ByteArray) (tk au : List UInt8) (tm li : Int) (s t : ByteArray) : Prop := tgsChk lt mu kv r tk au tm li s t = 0
theorem tgsOk_chk {lt : Bool} {mu : Bool} {kv : Int} {r : ByteArray} {tk : List UInt8} {au : List UInt8} {tm : Int} {li : Int} {s : ByteArray} {t : ByteArray} (h : tgsOk lt mu kv r tk au tm li s t) : tgsChk lt mu kv r tk au tm li s t = 0 := h
/-- What is read of the fields. -/
def tgsR (b : List UInt8) (lt : Bool) (s0 : Int × Bool) : Int × ByteArray × Int × Int × List UInt8 × List UInt8 × Int × Int × ByteArray × ByteArray × Bool :=
  let y1 := cNum b 1 false s0
  let y2 := cTxt b y1.2
  let y3 := cNum b 1 false y2.2
  let y4 := cNum b 1 false y3.2
  let y5 := cByt b y3.1 y4.2
  let y6 := cByt b y4.1 y5.2
  let y7 := cNum b 4 lt y6.2
  let y8 := cNum b 1 false y7.2
  let y9 := cTxt b y8.2
  let y10 := cTxt b y9.2
  (y1.1, y2.1, y3.1, y4.1, y5.1, y6.1, y7.1, y8.1, y9.1, y10.1, y10.2.2)
theorem tgsR_ok (pre post : List UInt8) (lt : Bool) (mu : Bool) (kv : Int) (r : ByteArray) (tk : List UInt8) (au : List UInt8) (tm : Int) (li : Int) (s : ByteArray) (t : ByteArray) (g1 : 0 ≤ kv ∧ kv ≤ 255) (g2 : plainB r) (g3 : 0 ≤ (tk.length : Int) ∧ (tk.length : Int) ≤ 255) (g4 : 0 ≤ (au.length : Int) ∧ (au.length : Int) ≤ 255) (g5 : (tk.length : Int) = (tk.length : Int)) (g6 : (au.length : Int) = (au.length : Int)) (g7 : 0 ≤ tm ∧ tm ≤ 4294967295) (g8 : 0 ≤ li ∧ li ≤ 255) (g9 : plainB s) (g10 : plainB t) : tgsR (pre ++ (tgsF lt mu kv r tk au tm li s t ++ post)) lt (pre.length, false) = (kv, r, (tk.length : Int), (au.length : Int), tk, au, tm, li, s, t, false) := by
  obtain ⟨b, hb⟩ : ∃ b, b = pre ++ (tgsF lt mu kv r tk au tm li s t ++ post) := ⟨_, rfl⟩
  obtain ⟨c1, hc1⟩ : ∃ c, c = u8 kv := ⟨_, rfl⟩
  have hu1 : (c1.toNat : Int) = kv := by rw [hc1, u8_toNat]; omega
  obtain ⟨B2, hc2⟩ : ∃ B, B = textB r := ⟨_, rfl⟩
  have hl2 : B2.length = (r.size + 1) := by rw [hc2]; simp only [prinB_length, numB_length, textB_length]
  obtain ⟨c3, hc3⟩ : ∃ c, c = u8 (tk.length : Int) := ⟨_, rfl⟩
  have hu3 : (c3.toNat : Int) = (tk.length : Int) := by rw [hc3, u8_toNat]; omega
  obtain ⟨c4, hc4⟩ : ∃ c, c = u8 (au.length : Int) := ⟨_, rfl⟩
  have hu4 : (c4.toNat : Int) = (au.length : Int) := by rw [hc4, u8_toNat]; omega
  obtain ⟨B7, hc7⟩ : ∃ B, B = numB tm 4 lt := ⟨_, rfl⟩
  have hl7 : B7.length = 4 := by rw [hc7]; simp only [prinB_length, numB_length, textB_length]
  obtain ⟨c8, hc8⟩ : ∃ c, c = u8 li := ⟨_, rfl⟩
  have hu8 : (c8.toNat : Int) = li := by rw [hc8, u8_toNat]; omega
  obtain ⟨B9, hc9⟩ : ∃ B, B = textB s := ⟨_, rfl⟩
  have hl9 : B9.length = (s.size + 1) := by rw [hc9]; simp only [prinB_length, numB_length, textB_length]
  obtain ⟨B10, hc10⟩ : ∃ B, B = textB t := ⟨_, rfl⟩
  have hl10 : B10.length = (t.size + 1) := by rw [hc10]; simp only [prinB_length, numB_length, textB_length]
  have q1 : b = pre ++ (c1 :: (B2 ++ (c3 :: (c4 :: (tk ++ (au ++ (B7 ++ (c8 :: (B9 ++ (B10 ++ post)))))))))) := by rw [hb, hc1, hc2, hc3, hc4, hc7, hc8, hc9, hc10]; simp [tgsF]
  have q2 : b = (pre ++ [c1]) ++ (B2 ++ (c3 :: (c4 :: (tk ++ (au ++ (B7 ++ (c8 :: (B9 ++ (B10 ++ post))))))))) := by rw [q1]; simp
  have q3 : b = (pre ++ [c1] ++ B2) ++ (c3 :: (c4 :: (tk ++ (au ++ (B7 ++ (c8 :: (B9 ++ (B10 ++ post)))))))) := by rw [q1]; simp
  have q4 : b = (pre ++ [c1] ++ B2 ++ [c3]) ++ (c4 :: (tk ++ (au ++ (B7 ++ (c8 :: (B9 ++ (B10 ++ post))))))) := by rw [q1]; simp
  have q5 : b = (pre ++ [c1] ++ B2 ++ [c3] ++ [c4]) ++ (tk ++ (au ++ (B7 ++ (c8 :: (B9 ++ (B10 ++ post)))))) := by rw [q1]; simp
  have q6 : b = (pre ++ [c1] ++ B2 ++ [c3] ++ [c4] ++ tk) ++ (au ++ (B7 ++ (c8 :: (B9 ++ (B10 ++ post))))) := by rw [q1]; simp
  have q7 : b = (pre ++ [c1] ++ B2 ++ [c3] ++ [c4] ++ tk ++ au) ++ (B7 ++ (c8 :: (B9 ++ (B10 ++ post)))) := by rw [q1]; simp
  have q8 : b = (pre ++ [c1] ++ B2 ++ [c3] ++ [c4] ++ tk ++ au ++ B7) ++ (c8 :: (B9 ++ (B10 ++ post))) := by rw [q1]; simp
  have q9 : b = (pre ++ [c1] ++ B2 ++ [c3] ++ [c4] ++ tk ++ au ++ B7 ++ [c8]) ++ (B9 ++ (B10 ++ post)) := by rw [q1]; simp
  have q10 : b = (pre ++ [c1] ++ B2 ++ [c3] ++ [c4] ++ tk ++ au ++ B7 ++ [c8] ++ B9) ++ (B10 ++ post) := by rw [q1]; simp
  have r1 := cNum_one pre (B2 ++ (c3 :: (c4 :: (tk ++ (au ++ (B7 ++ (c8 :: (B9 ++ (B10 ++ post))))))))) c1
  rw [← q1] at r1
  have r2 := cTxt_text (pre ++ [c1]) (c3 :: (c4 :: (tk ++ (au ++ (B7 ++ (c8 :: (B9 ++ (B10 ++ post)))))))) r g2
  have p2 : ((pre ++ [c1]).length : Int) = (pre.length : Int) + 1 := by simp only [List.length_append, List.length_singleton]; omega
  rw [← hc2, ← q2, p2] at r2
  have r3 := cNum_one (pre ++ [c1] ++ B2) (c4 :: (tk ++ (au ++ (B7 ++ (c8 :: (B9 ++ (B10 ++ post))))))) c3
  have p3 : ((pre ++ [c1] ++ B2).length : Int) = (pre.length : Int) + 1 + r.size + 1 := by simp only [List.length_append, List.length_singleton, hl2]; omega
  rw [← q3, p3] at r3
  have r4 := cNum_one (pre ++ [c1] ++ B2 ++ [c3]) (tk ++ (au ++ (B7 ++ (c8 :: (B9 ++ (B10 ++ post)))))) c4
  have p4 : ((pre ++ [c1] ++ B2 ++ [c3]).length : Int) = (pre.length : Int) + 1 + r.size + 1 + 1 := by simp only [List.length_append, List.length_singleton, hl2]; omega
  rw [← q4, p4] at r4
  have r5 := cByt_at (pre ++ [c1] ++ B2 ++ [c3] ++ [c4]) tk (au ++ (B7 ++ (c8 :: (B9 ++ (B10 ++ post))))) (tk.length : Int) g5
  have p5 : ((pre ++ [c1] ++ B2 ++ [c3] ++ [c4]).length : Int) = (pre.length : Int) + 1 + r.size + 1 + 1 + 1 := by simp only [List.length_append, List.length_singleton, hl2]; omega
  rw [← q5, p5] at r5
  have r6 := cByt_at (pre ++ [c1] ++ B2 ++ [c3] ++ [c4] ++ tk) au (B7 ++ (c8 :: (B9 ++ (B10 ++ post)))) (au.length : Int) g6
  have p6 : ((pre ++ [c1] ++ B2 ++ [c3] ++ [c4] ++ tk).length : Int) = (pre.length : Int) + 1 + r.size + 1 + 1 + 1 + (tk.length : Int) := by simp only [List.length_append, List.length_singleton, hl2]; omega
  rw [← q6, p6] at r6
  have r7 := cNum_num (pre ++ [c1] ++ B2 ++ [c3] ++ [c4] ++ tk ++ au) (c8 :: (B9 ++ (B10 ++ post))) tm 4 lt g7.1 (by omega)
  have p7 : ((pre ++ [c1] ++ B2 ++ [c3] ++ [c4] ++ tk ++ au).length : Int) = (pre.length : Int) + 1 + r.size + 1 + 1 + 1 + (tk.length : Int) + (au.length : Int) := by simp only [List.length_append, List.length_singleton, hl2]; omega
  rw [← hc7, ← q7, p7] at r7
  have r8 := cNum_one (pre ++ [c1] ++ B2 ++ [c3] ++ [c4] ++ tk ++ au ++ B7) (B9 ++ (B10 ++ post)) c8
  have p8 : ((pre ++ [c1] ++ B2 ++ [c3] ++ [c4] ++ tk ++ au ++ B7).length : Int) = (pre.length : Int) + 1 + r.size + 1 + 1 + 1 + (tk.length : Int) + (au.length : Int) + ((4 : Nat) : Int) := by simp only [List.length_append, List.length_singleton, hl2, hl7]; omega
  rw [← q8, p8] at r8
  have r9 := cTxt_text (pre ++ [c1] ++ B2 ++ [c3] ++ [c4] ++ tk ++ au ++ B7 ++ [c8]) (B10 ++ post) s g9
  have p9 : ((pre ++ [c1] ++ B2 ++ [c3] ++ [c4] ++ tk ++ au ++ B7 ++ [c8]).length : Int) = (pre.length : Int) + 1 + r.size + 1 + 1 + 1 + (tk.length : Int) + (au.length : Int) + ((4 : Nat) : Int) + 1 := by simp only [List.length_append, List.length_singleton, hl2, hl7]; omega
  rw [← hc9, ← q9, p9] at r9
  have r10 := cTxt_text (pre ++ [c1] ++ B2 ++ [c3] ++ [c4] ++ tk ++ au ++ B7 ++ [c8] ++ B9) post t g10
  have p10 : ((pre ++ [c1] ++ B2 ++ [c3] ++ [c4] ++ tk ++ au ++ B7 ++ [c8] ++ B9).length : Int) = (pre.length : Int) + 1 + r.size + 1 + 1 + 1 + (tk.length : Int) + (au.length : Int) + ((4 : Nat) : Int) + 1 + s.size + 1 := by simp only [List.length_append, List.length_singleton, hl2, hl7, hl9]; omega
  rw [← hc10, ← q10, p10] at r10
  rw [← hb]
  unfold tgsR
  simp only [r1, r2, r3, r4, r5, r6, r7, r8, r9, r10, hu1, hu3, hu4, hu8]
/-- What is read of the fields. -/
def tgsRr (b : List UInt8) (lt : Bool) (s0 : Int × Bool) : Int × ByteArray × Int × Int × List UInt8 × List UInt8 × Int × Int × ByteArray × ByteArray × Bool :=
  let y1 := rNum b 1 false s0
  let y2 := rTxt b y1.2
  let y3 := rNum b 1 false y2.2
  let y4 := rNum b 1 false y3.2
  let y5 := rByt b y3.1 y4.2
  let y6 := rByt b y4.1 y5.2
  let y7 := rNum b 4 lt y6.2
  let y8 := rNum b 1 false y7.2
  let y9 := rTxt b y8.2
  let y10 := rTxt b y9.2
  (y1.1, y2.1, y3.1, y4.1, y5.1, y6.1, y7.1, y8.1, y9.1, y10.1, y10.2.2)
theorem tgsRr_ok (pre post : List UInt8) (lt : Bool) (mu : Bool) (kv : Int) (r : ByteArray) (tk : List UInt8) (au : List UInt8) (tm : Int) (li : Int) (s : ByteArray) (t : ByteArray) (g1 : 0 ≤ kv ∧ kv ≤ 255) (g2 : plainB r) (g3 : 0 ≤ (tk.length : Int) ∧ (tk.length : Int) ≤ 255) (g4 : 0 ≤ (au.length : Int) ∧ (au.length : Int) ≤ 255) (g5 : (tk.length : Int) = (tk.length : Int)) (g6 : (au.length : Int) = (au.length : Int)) (g7 : 0 ≤ tm ∧ tm ≤ 4294967295) (g8 : 0 ≤ li ∧ li ≤ 255) (g9 : plainB s) (g10 : plainB t) : tgsRr (pre ++ (tgsF lt mu kv r tk au tm li s t ++ post)) lt (pre.length, false) = (kv, r, (tk.length : Int), (au.length : Int), tk, au, tm, li, s, t, false) := by
  obtain ⟨b, hb⟩ : ∃ b, b = pre ++ (tgsF lt mu kv r tk au tm li s t ++ post) := ⟨_, rfl⟩
  obtain ⟨c1, hc1⟩ : ∃ c, c = u8 kv := ⟨_, rfl⟩
  have hu1 : (c1.toNat : Int) = kv := by rw [hc1, u8_toNat]; omega
  obtain ⟨B2, hc2⟩ : ∃ B, B = textB r := ⟨_, rfl⟩
  have hl2 : B2.length = (r.size + 1) := by rw [hc2]; simp only [prinB_length, numB_length, textB_length]
  obtain ⟨c3, hc3⟩ : ∃ c, c = u8 (tk.length : Int) := ⟨_, rfl⟩
  have hu3 : (c3.toNat : Int) = (tk.length : Int) := by rw [hc3, u8_toNat]; omega
  obtain ⟨c4, hc4⟩ : ∃ c, c = u8 (au.length : Int) := ⟨_, rfl⟩
  have hu4 : (c4.toNat : Int) = (au.length : Int) := by rw [hc4, u8_toNat]; omega
  obtain ⟨B7, hc7⟩ : ∃ B, B = numB tm 4 lt := ⟨_, rfl⟩
  have hl7 : B7.length = 4 := by rw [hc7]; simp only [prinB_length, numB_length, textB_length]
  obtain ⟨c8, hc8⟩ : ∃ c, c = u8 li := ⟨_, rfl⟩
  have hu8 : (c8.toNat : Int) = li := by rw [hc8, u8_toNat]; omega
  obtain ⟨B9, hc9⟩ : ∃ B, B = textB s := ⟨_, rfl⟩
  have hl9 : B9.length = (s.size + 1) := by rw [hc9]; simp only [prinB_length, numB_length, textB_length]
  obtain ⟨B10, hc10⟩ : ∃ B, B = textB t := ⟨_, rfl⟩
  have hl10 : B10.length = (t.size + 1) := by rw [hc10]; simp only [prinB_length, numB_length, textB_length]
  have q1 : b = pre ++ (c1 :: (B2 ++ (c3 :: (c4 :: (tk ++ (au ++ (B7 ++ (c8 :: (B9 ++ (B10 ++ post)))))))))) := by rw [hb, hc1, hc2, hc3, hc4, hc7, hc8, hc9, hc10]; simp [tgsF]
  have q2 : b = (pre ++ [c1]) ++ (B2 ++ (c3 :: (c4 :: (tk ++ (au ++ (B7 ++ (c8 :: (B9 ++ (B10 ++ post))))))))) := by rw [q1]; simp
  have q3 : b = (pre ++ [c1] ++ B2) ++ (c3 :: (c4 :: (tk ++ (au ++ (B7 ++ (c8 :: (B9 ++ (B10 ++ post)))))))) := by rw [q1]; simp
  have q4 : b = (pre ++ [c1] ++ B2 ++ [c3]) ++ (c4 :: (tk ++ (au ++ (B7 ++ (c8 :: (B9 ++ (B10 ++ post))))))) := by rw [q1]; simp
  have q5 : b = (pre ++ [c1] ++ B2 ++ [c3] ++ [c4]) ++ (tk ++ (au ++ (B7 ++ (c8 :: (B9 ++ (B10 ++ post)))))) := by rw [q1]; simp
  have q6 : b = (pre ++ [c1] ++ B2 ++ [c3] ++ [c4] ++ tk) ++ (au ++ (B7 ++ (c8 :: (B9 ++ (B10 ++ post))))) := by rw [q1]; simp
  have q7 : b = (pre ++ [c1] ++ B2 ++ [c3] ++ [c4] ++ tk ++ au) ++ (B7 ++ (c8 :: (B9 ++ (B10 ++ post)))) := by rw [q1]; simp
  have q8 : b = (pre ++ [c1] ++ B2 ++ [c3] ++ [c4] ++ tk ++ au ++ B7) ++ (c8 :: (B9 ++ (B10 ++ post))) := by rw [q1]; simp
  have q9 : b = (pre ++ [c1] ++ B2 ++ [c3] ++ [c4] ++ tk ++ au ++ B7 ++ [c8]) ++ (B9 ++ (B10 ++ post)) := by rw [q1]; simp
  have q10 : b = (pre ++ [c1] ++ B2 ++ [c3] ++ [c4] ++ tk ++ au ++ B7 ++ [c8] ++ B9) ++ (B10 ++ post) := by rw [q1]; simp
  have r1 := rNum_one pre (B2 ++ (c3 :: (c4 :: (tk ++ (au ++ (B7 ++ (c8 :: (B9 ++ (B10 ++ post))))))))) c1
  rw [← q1] at r1
  have r2 := rTxt_text (pre ++ [c1]) (c3 :: (c4 :: (tk ++ (au ++ (B7 ++ (c8 :: (B9 ++ (B10 ++ post)))))))) r g2
  have p2 : ((pre ++ [c1]).length : Int) = (pre.length : Int) + 1 := by simp only [List.length_append, List.length_singleton]; omega
  rw [← hc2, ← q2, p2] at r2
  have r3 := rNum_one (pre ++ [c1] ++ B2) (c4 :: (tk ++ (au ++ (B7 ++ (c8 :: (B9 ++ (B10 ++ post))))))) c3
  have p3 : ((pre ++ [c1] ++ B2).length : Int) = (pre.length : Int) + 1 + r.size + 1 := by simp only [List.length_append, List.length_singleton, hl2]; omega
  rw [← q3, p3] at r3
  have r4 := rNum_one (pre ++ [c1] ++ B2 ++ [c3]) (tk ++ (au ++ (B7 ++ (c8 :: (B9 ++ (B10 ++ post)))))) c4
  have p4 : ((pre ++ [c1] ++ B2 ++ [c3]).length : Int) = (pre.length : Int) + 1 + r.size + 1 + 1 := by simp only [List.length_append, List.length_singleton, hl2]; omega
  rw [← q4, p4] at r4
  have r5 := rByt_at (pre ++ [c1] ++ B2 ++ [c3] ++ [c4]) tk (au ++ (B7 ++ (c8 :: (B9 ++ (B10 ++ post))))) (tk.length : Int) g5
  have p5 : ((pre ++ [c1] ++ B2 ++ [c3] ++ [c4]).length : Int) = (pre.length : Int) + 1 + r.size + 1 + 1 + 1 := by simp only [List.length_append, List.length_singleton, hl2]; omega
  rw [← q5, p5] at r5
  have r6 := rByt_at (pre ++ [c1] ++ B2 ++ [c3] ++ [c4] ++ tk) au (B7 ++ (c8 :: (B9 ++ (B10 ++ post)))) (au.length : Int) g6
  have p6 : ((pre ++ [c1] ++ B2 ++ [c3] ++ [c4] ++ tk).length : Int) = (pre.length : Int) + 1 + r.size + 1 + 1 + 1 + (tk.length : Int) := by simp only [List.length_append, List.length_singleton, hl2]; omega
  rw [← q6, p6] at r6
  have r7 := rNum_num (pre ++ [c1] ++ B2 ++ [c3] ++ [c4] ++ tk ++ au) (c8 :: (B9 ++ (B10 ++ post))) tm 4 lt g7.1 (by omega)
  have p7 : ((pre ++ [c1] ++ B2 ++ [c3] ++ [c4] ++ tk ++ au).length : Int) = (pre.length : Int) + 1 + r.size + 1 + 1 + 1 + (tk.length : Int) + (au.length : Int) := by simp only [List.length_append, List.length_singleton, hl2]; omega
  rw [← hc7, ← q7, p7] at r7
  have r8 := rNum_one (pre ++ [c1] ++ B2 ++ [c3] ++ [c4] ++ tk ++ au ++ B7) (B9 ++ (B10 ++ post)) c8
  have p8 : ((pre ++ [c1] ++ B2 ++ [c3] ++ [c4] ++ tk ++ au ++ B7).length : Int) = (pre.length : Int) + 1 + r.size + 1 + 1 + 1 + (tk.length : Int) + (au.length : Int) + ((4 : Nat) : Int) := by simp only [List.length_append, List.length_singleton, hl2, hl7]; omega
  rw [← q8, p8] at r8
  have r9 := rTxt_text (pre ++ [c1] ++ B2 ++ [c3] ++ [c4] ++ tk ++ au ++ B7 ++ [c8]) (B10 ++ post) s g9
  have p9 : ((pre ++ [c1] ++ B2 ++ [c3] ++ [c4] ++ tk ++ au ++ B7 ++ [c8]).length : Int) = (pre.length : Int) + 1 + r.size + 1 + 1 + 1 + (tk.length : Int) + (au.length : Int) + ((4 : Nat) : Int) + 1 := by simp only [List.length_append, List.length_singleton, hl2, hl7]; omega
  rw [← hc9, ← q9, p9] at r9
  have r10 := rTxt_text (pre ++ [c1] ++ B2 ++ [c3] ++ [c4] ++ tk ++ au ++ B7 ++ [c8] ++ B9) post t g10
  have p10 : ((pre ++ [c1] ++ B2 ++ [c3] ++ [c4] ++ tk ++ au ++ B7 ++ [c8] ++ B9).length : Int) = (pre.length : Int) + 1 + r.size + 1 + 1 + 1 + (tk.length : Int) + (au.length : Int) + ((4 : Nat) : Int) + 1 + s.size + 1 := by simp only [List.length_append, List.length_singleton, hl2, hl7, hl9]; omega
  rw [← hc10, ← q10, p10] at r10
  rw [← hb]
  unfold tgsRr
  simp only [r1, r2, r3, r4, r5, r6, r7, r8, r9, r10, hu1, hu3, hu4, hu8]
/-- These bytes are those of this message. -/
def tgsIs (b : List UInt8) (lt mu : Bool) (kv : Int) (r : ByteArray) (tk au : List UInt8) (tm li : Int) (s t : ByteArray) : Prop := tgsOk lt mu kv r tk au tm li s t ∧ tgsB lt mu kv r tk au tm li s t = b
theorem tgsIs.read {b : List UInt8} {lt : Bool} {mu : Bool} {kv : Int} {r : ByteArray} {tk : List UInt8} {au : List UInt8} {tm : Int} {li : Int} {s : ByteArray} {t : ByteArray} (h : tgsIs b lt mu kv r tk au tm li s t) : tgsR b lt (2, false) = (kv, r, (tk.length : Int), (au.length : Int), tk, au, tm, li, s, t, false) := by
  obtain ⟨h1, rfl⟩ := h
  have hc := tgsChk_ok (tgsOk_chk h1)
  obtain ⟨c1, c2, c3, c4, c5, c6, c7, c8, c9⟩ := hc
  have := tgsR_ok (hdB 3 lt) ([]) lt mu kv r tk au tm li s t (c3) (realmB_plain c2) (⟨by omega, by omega⟩) (⟨by omega, by omega⟩) (rfl) (rfl) (c8) (c9) (nameB_plain c6) (instB_plain c7)
  rw [List.append_nil, show ((hdB 3 lt).length : Int) = 2 from rfl] at this
  exact this
theorem tgsIs.rread {b : List UInt8} {lt : Bool} {mu : Bool} {kv : Int} {r : ByteArray} {tk : List UInt8} {au : List UInt8} {tm : Int} {li : Int} {s : ByteArray} {t : ByteArray} (h : tgsIs b lt mu kv r tk au tm li s t) : tgsRr b lt (2, false) = (kv, r, (tk.length : Int), (au.length : Int), tk, au, tm, li, s, t, false) := by
  obtain ⟨h1, rfl⟩ := h
  have hc := tgsChk_ok (tgsOk_chk h1)
  obtain ⟨c1, c2, c3, c4, c5, c6, c7, c8, c9⟩ := hc
  have := tgsRr_ok (hdB 3 lt) ([]) lt mu kv r tk au tm li s t (c3) (realmB_plain c2) (⟨by omega, by omega⟩) (⟨by omega, by omega⟩) (rfl) (rfl) (c8) (c9) (nameB_plain c6) (instB_plain c7)
  rw [List.append_nil, show ((hdB 3 lt).length : Int) = 2 from rfl] at this
  exact this
theorem tgsIs.hd {b : List UInt8} {lt : Bool} {mu : Bool} {kv : Int} {r : ByteArray} {tk : List UInt8} {au : List UInt8} {tm : Int} {li : Int} {s : ByteArray} {t : ByteArray} (h : tgsIs b lt mu kv r tk au tm li s t) : hdIs b [3] = (lt, 0) := by
  obtain ⟨_, rfl⟩ := h
  unfold tgsB
  exact (hdIs_put (by decide) _ _).trans (if_pos (by decide))
theorem tgsIs.mu0 {b : List UInt8} {lt mu : Bool} {kv : Int} {r : ByteArray} {tk au : List UInt8} {tm li : Int} {s t : ByteArray} (h : tgsIs b lt mu kv r tk au tm li s t) : mu = false := (tgsChk_ok (tgsOk_chk h.1)).1
theorem tgsIs.inj {b : List UInt8} {lt : Bool} {mu : Bool} {kv : Int} {r : ByteArray} {tk : List UInt8} {au : List UInt8} {tm : Int} {li : Int} {s : ByteArray} {t : ByteArray} {lt' : Bool} {mu' : Bool} {kv' : Int} {r' : ByteArray} {tk' : List UInt8} {au' : List UInt8} {tm' : Int} {li' : Int} {s' : ByteArray} {t' : ByteArray} (h : tgsIs b lt mu kv r tk au tm li s t) (h' : tgsIs b lt' mu' kv' r' tk' au' tm' li' s' t') : lt = lt' ∧ mu = mu' ∧ kv = kv' ∧ r = r' ∧ tk = tk' ∧ au = au' ∧ tm = tm' ∧ li = li' ∧ s = s' ∧ t = t' := by
  have e := h.hd.symm.trans h'.hd
  simp only [Prod.mk.injEq, and_true] at e
  subst e
  have := h.read.symm.trans h'.read
  simp only [Prod.mk.injEq] at this
  obtain ⟨a0, a1, a2, a3, a4, a5, a6, a7, a8, a9, _⟩ := this
  exact ⟨rfl, (h.mu0.trans h'.mu0.symm), a0, a1, a4, a5, a6, a7, a8, a9⟩
def tgsZ : AV := .st [.raw (.bool false), .raw (.bool false), .raw (.int .i64 0), .raw (.string ⟨#[]⟩), .lst 1 [], .lst 1 [], .raw (.int .i64 0), .raw (.int .i64 0), .raw (.string ⟨#[]⟩), .raw (.string ⟨#[]⟩)]
def tgsErr (b : List UInt8) : Int := if (hdIs b [3]).2 = 0 then 100 else (hdIs b [3]).2
/-- What the decoder answers. -/
def tgsDec (b : List UInt8) (d : AV) : Prop :=
  (∃ lt mu kv r tk au tm li s t, tgsIs b lt mu kv r tk au tm li s t ∧ d = .tup [tgsA lt mu kv r tk au tm li s t, .raw (.int .i64 0)]) ∨
  ((∀ lt mu kv r tk au tm li s t, ¬ tgsIs b lt mu kv r tk au tm li s t) ∧ d = .tup [tgsZ, .raw (.int .i64 (tgsErr b))])
theorem tgsDec.unique {b : List UInt8} {d d' : AV} (h : tgsDec b d) (h' : tgsDec b d') : d = d' := by
  rcases h with ⟨lt, mu, kv, r, tk, au, tm, li, s, t, h1, rfl⟩ | ⟨h1, rfl⟩
  · rcases h' with ⟨lt', mu', kv', r', tk', au', tm', li', s', t', h2, rfl⟩ | ⟨h2, rfl⟩
    · obtain ⟨rfl, rfl, rfl, rfl, rfl, rfl, rfl, rfl, rfl, rfl⟩ := h1.inj h2
      rfl
    · exact absurd h1 (h2 _ _ _ _ _ _ _ _ _ _)
  · rcases h' with ⟨lt', mu', kv', r', tk', au', tm', li', s', t', h2, rfl⟩ | ⟨h2, rfl⟩
    · exact absurd h2 (h1 _ _ _ _ _ _ _ _ _ _)
    · rfl
theorem tgsDec.of {b : List UInt8} {lt : Bool} {mu : Bool} {kv : Int} {r : ByteArray} {tk : List UInt8} {au : List UInt8} {tm : Int} {li : Int} {s : ByteArray} {t : ByteArray} {d : AV} (h : tgsDec b d) (h1 : tgsIs b lt mu kv r tk au tm li s t) : d = .tup [tgsA lt mu kv r tk au tm li s t, .raw (.int .i64 0)] := h.unique (.inl ⟨_, _, _, _, _, _, _, _, _, _, h1, rfl⟩)
theorem tgsChk_ap (lt : Bool) (kv : Int) (r : ByteArray) (tk au : List UInt8) (tm li : Int) (s t : ByteArray) (h : apChk lt false kv r tk au ≠ 0) : tgsChk lt false kv r tk au tm li s t = apChk lt false kv r tk au := by
  unfold apChk at h ⊢
  unfold tgsChk
  rw [if_neg (by decide)]
  by_cases h1 : (realmB r) = false
  · simp only [if_pos h1]
  · simp only [if_neg h1] at h ⊢
    by_cases h2 : kv < 0 ∨ kv > 255
    · simp only [if_pos h2]
    · simp only [if_neg h2] at h ⊢
      by_cases h3 : (tk.length : Int) > 255 ∨ (au.length : Int) > 255
      · simp only [if_pos h3]
      · simp only [if_neg h3] at h
        exact absurd rfl h
theorem tgsZ_weak {own : Own} {e : AV} : Weak1 own (.tup [.st [.raw (.bool false), .raw (.bool false), .raw (.int .i64 0), .raw (.string ⟨#[]⟩), .raw (.slice none 0 0), .raw (.slice none 0 0), .raw (.int .i64 0), .raw (.int .i64 0), .raw (.string ⟨#[]⟩), .raw (.string ⟨#[]⟩)], e]) own (.tup [tgsZ, e]) :=
  Weak1.tup (Weak.one (pre := []) (Weak1.trans (Weak1.st (Weak.one (pre := [.raw (.bool false), .raw (.bool false), .raw (.int .i64 0), .raw (.string ⟨#[]⟩)]) (post := [.raw (.slice none 0 0), .raw (.int .i64 0), .raw (.int .i64 0), .raw (.string ⟨#[]⟩), .raw (.string ⟨#[]⟩)]) (Weak1.nil (wd := 1))))
    (Weak1.st (Weak.one (pre := [.raw (.bool false), .raw (.bool false), .raw (.int .i64 0), .raw (.string ⟨#[]⟩), .lst 1 []]) (post := [.raw (.int .i64 0), .raw (.int .i64 0), .raw (.string ⟨#[]⟩), .raw (.string ⟨#[]⟩)]) (Weak1.nil (wd := 1))))))
set_option maxHeartbeats 8000000 in
theorem tgsEncode_pure (lt mu : Bool) (kv : Int) (r : ByteArray) (tk au : List UInt8) (tm li : Int) (s t : ByteArray) (zr : r.size ≤ 100000) (ztk : tk.length ≤ 100000) (zau : au.length ≤ 100000) (zs : s.size ≤ 100000) (zt : t.size ≤ 100000) :
    PC Tryz.prog 105 [tgsA lt mu kv r tk au tm li s t] (tgsE lt mu kv r tk au tm li s t) := by
  refine PC.post ?_
  obtain ⟨b0, e0⟩ : ∃ b, b = hdB 3 lt := ⟨_, rfl⟩
  have l0 : b0.length = 2 := by rw [e0]; rfl
  obtain ⟨b1, e1⟩ : ∃ b, b0 ++ [u8 kv] = b := ⟨_, rfl⟩
  have l1 : b1.length = b0.length + 1 := by rw [← e1, List.length_append] <;> first | rfl | simp only [prinB_length, numB_length, textB_length]
  obtain ⟨b2, e2⟩ : ∃ b, b1 ++ textB r = b := ⟨_, rfl⟩
  have l2 : b2.length = b1.length + (r.size + 1) := by rw [← e2, List.length_append] <;> first | rfl | simp only [prinB_length, numB_length, textB_length]
  obtain ⟨b3, e3⟩ : ∃ b, b2 ++ [u8 (tk.length : Int)] = b := ⟨_, rfl⟩
  have l3 : b3.length = b2.length + 1 := by rw [← e3, List.length_append] <;> first | rfl | simp only [prinB_length, numB_length, textB_length]
  obtain ⟨b4, e4⟩ : ∃ b, b3 ++ [u8 (au.length : Int)] = b := ⟨_, rfl⟩
  have l4 : b4.length = b3.length + 1 := by rw [← e4, List.length_append] <;> first | rfl | simp only [prinB_length, numB_length, textB_length]
  obtain ⟨b5, e5⟩ : ∃ b, b4 ++ tk = b := ⟨_, rfl⟩
  have l5 : b5.length = b4.length + tk.length := by rw [← e5, List.length_append] <;> first | rfl | simp only [prinB_length, numB_length, textB_length]
  obtain ⟨b6, e6⟩ : ∃ b, b5 ++ au = b := ⟨_, rfl⟩
  have l6 : b6.length = b5.length + au.length := by rw [← e6, List.length_append] <;> first | rfl | simp only [prinB_length, numB_length, textB_length]
  obtain ⟨b7, e7⟩ : ∃ b, b6 ++ numB tm 4 lt = b := ⟨_, rfl⟩
  have l7 : b7.length = b6.length + 4 := by rw [← e7, List.length_append] <;> first | rfl | simp only [prinB_length, numB_length, textB_length]
  obtain ⟨b8, e8⟩ : ∃ b, b7 ++ [u8 li] = b := ⟨_, rfl⟩
  have l8 : b8.length = b7.length + 1 := by rw [← e8, List.length_append] <;> first | rfl | simp only [prinB_length, numB_length, textB_length]
  obtain ⟨b9, e9⟩ : ∃ b, b8 ++ textB s = b := ⟨_, rfl⟩
  have l9 : b9.length = b8.length + (s.size + 1) := by rw [← e9, List.length_append] <;> first | rfl | simp only [prinB_length, numB_length, textB_length]
  obtain ⟨b10, e10⟩ : ∃ b, b9 ++ textB t = b := ⟨_, rfl⟩
  have l10 : b10.length = b9.length + (t.size + 1) := by rw [← e10, List.length_append] <;> first | rfl | simp only [prinB_length, numB_length, textB_length]
  have hfin : tgsB lt mu kv r tk au tm li s t = b10 := by rw [tgsB, tgsF, ← e10, ← e9, ← e8, ← e7, ← e6, ← e5, ← e4, ← e3, ← e2, ← e1, e0]; simp only [List.append_assoc]
  have p1 := PutOctet_pure b0 kv (by omega)
  rw [e1] at p1
  have p2 := PutText_pure b1 r (by omega)
  rw [e2] at p2
  have p3 := PutOctet_pure b2 (tk.length : Int) (by omega)
  rw [e3] at p3
  have p4 := PutOctet_pure b3 (au.length : Int) (by omega)
  rw [e4] at p4
  have p7 := PutNumber_pure b6 tm lt (by omega)
  rw [e7] at p7
  have p8 := PutOctet_pure b7 li (by omega)
  rw [e8] at p8
  have p9 := PutText_pure b8 s (by omega)
  rw [e9] at p9
  have p10 := PutText_pure b9 t (by omega)
  rw [e10] at p10
  have hA := apEncode_pure lt mu kv r tk au zr ztk zau
  unfold apA apE at hA
  unfold tgsA
  refine AC.of_body (M := []) Tryz.func105 rfl (by kernel_rfl) (Nat.le_of_ble_eq_true rfl) ?_; simp only [Tryz.results105, Tryz.ntmps105]
  simp (dsimp := false) only [go_sem, ↓reduceIte, Nat.reduceEqDiff, Nat.reduceLT, Nat.reduceAdd, Nat.reduceSub, Nat.reduceMul, Nat.reduceLeDiff, reduceCtorEq, Int.reduceNeg, Int.reduceToNat, Int.reduceLT, Int.reduceLE, Int.reduceGE, Int.reduceGT, Int.reduceEq]
  rcases Bool.eq_false_or_eq_true mu with hm | hm
  · subst hm
    simp (dsimp := false) only [go_sem, ↓reduceIte, Nat.reduceEqDiff, Nat.reduceLT, Nat.reduceAdd, Nat.reduceSub, Nat.reduceMul, Nat.reduceLeDiff, reduceCtorEq, Int.reduceNeg, Int.reduceToNat, Int.reduceLT, Int.reduceLE, Int.reduceGE, Int.reduceGT, Int.reduceEq]
    have hC : tgsChk lt true kv r tk au tm li s t = 100 := by rw [tgsChk, if_pos rfl]
    refine ⟨noOwn, ?_⟩
    rw [tgsE, hC, if_neg (by decide)]
    exact Weak1.nil2
  subst hm
  simp (dsimp := false) only [go_sem, ↓reduceIte, Nat.reduceEqDiff, Nat.reduceLT, Nat.reduceAdd, Nat.reduceSub, Nat.reduceMul, Nat.reduceLeDiff, reduceCtorEq, Int.reduceNeg, Int.reduceToNat, Int.reduceLT, Int.reduceLE, Int.reduceGE, Int.reduceGT, Int.reduceEq]
  refine ACs.pure hA ?_
  by_cases hap : apChk lt false kv r tk au = 0
  rotate_left
  · simp (dsimp := false) only [go_sem, ↓reduceIte, Nat.reduceEqDiff, Nat.reduceLT, Nat.reduceAdd, Nat.reduceSub, Nat.reduceMul, Nat.reduceLeDiff, reduceCtorEq, Int.reduceNeg, Int.reduceToNat, Int.reduceLT, Int.reduceLE, Int.reduceGE, Int.reduceGT, Int.reduceEq, hap]
    have hC := tgsChk_ap lt kv r tk au tm li s t hap
    refine ⟨noOwn, ?_⟩
    rw [tgsE, hC, if_neg hap]
    exact Weak1.nil2
  obtain ⟨q1, q2, q3, q4⟩ := apChk_ok hap
  have hB6 : apB lt false kv r tk au = b6 := by
    rw [apB, apF, ← e6, ← e5, ← e4, ← e3, ← e2, ← e1, e0]
    simp only [List.append_assoc]
    rfl
  simp (dsimp := false) only [go_sem, ↓reduceIte, Nat.reduceEqDiff, Nat.reduceLT, Nat.reduceAdd, Nat.reduceSub, Nat.reduceMul, Nat.reduceLeDiff, reduceCtorEq, Int.reduceNeg, Int.reduceToNat, Int.reduceLT, Int.reduceLE, Int.reduceGE, Int.reduceGT, Int.reduceEq, hap, hB6]
  refine ACs.pure (ValidName_pure s (by omega)) ?_
  rcases Bool.eq_false_or_eq_true (nameB s) with h4_0 | h4_0
  · simp (dsimp := false) only [go_sem, ↓reduceIte, Nat.reduceEqDiff, Nat.reduceLT, Nat.reduceAdd, Nat.reduceSub, Nat.reduceMul, Nat.reduceLeDiff, reduceCtorEq, Int.reduceNeg, Int.reduceToNat, Int.reduceLT, Int.reduceLE, Int.reduceGE, Int.reduceGT, Int.reduceEq, h4_0]
    refine ACs.pure (ValidInstance_pure t (by omega)) ?_
    rcases Bool.eq_false_or_eq_true (instB t) with h4_1 | h4_1
    · simp (dsimp := false) only [go_sem, ↓reduceIte, Nat.reduceEqDiff, Nat.reduceLT, Nat.reduceAdd, Nat.reduceSub, Nat.reduceMul, Nat.reduceLeDiff, reduceCtorEq, Int.reduceNeg, Int.reduceToNat, Int.reduceLT, Int.reduceLE, Int.reduceGE, Int.reduceGT, Int.reduceEq, h4_1]
      refine ACs.pure (outside10_pure tm _) ?_
      by_cases h5_0 : tm < 0 ∨ tm > 4294967295
      · simp (dsimp := false) only [go_sem, ↓reduceIte, Nat.reduceEqDiff, Nat.reduceLT, Nat.reduceAdd, Nat.reduceSub, Nat.reduceMul, Nat.reduceLeDiff, reduceCtorEq, Int.reduceNeg, Int.reduceToNat, Int.reduceLT, Int.reduceLE, Int.reduceGE, Int.reduceGT, Int.reduceEq, h5_0]
        have hC : tgsChk lt false kv r tk au tm li s t = 104 := by rw [tgsChk, if_neg (by decide), if_neg (by simp [q1]), if_neg (by omega), if_neg (by omega), if_neg (by simp [h4_0, h4_1]), if_pos (by omega)]
        refine ⟨noOwn, ?_⟩
        rw [tgsE, hC, if_neg (by decide)]
        exact Weak1.nil2
      · simp (dsimp := false) only [go_sem, ↓reduceIte, Nat.reduceEqDiff, Nat.reduceLT, Nat.reduceAdd, Nat.reduceSub, Nat.reduceMul, Nat.reduceLeDiff, reduceCtorEq, Int.reduceNeg, Int.reduceToNat, Int.reduceLT, Int.reduceLE, Int.reduceGE, Int.reduceGT, Int.reduceEq, h5_0]
        refine ACs.pure (outside10_pure li _) ?_
        by_cases h5_1 : li < 0 ∨ li > 255
        · simp (dsimp := false) only [go_sem, ↓reduceIte, Nat.reduceEqDiff, Nat.reduceLT, Nat.reduceAdd, Nat.reduceSub, Nat.reduceMul, Nat.reduceLeDiff, reduceCtorEq, Int.reduceNeg, Int.reduceToNat, Int.reduceLT, Int.reduceLE, Int.reduceGE, Int.reduceGT, Int.reduceEq, h5_1]
          have hC : tgsChk lt false kv r tk au tm li s t = 104 := by rw [tgsChk, if_neg (by decide), if_neg (by simp [q1]), if_neg (by omega), if_neg (by omega), if_neg (by simp [h4_0, h4_1]), if_pos (by omega)]
          refine ⟨noOwn, ?_⟩
          rw [tgsE, hC, if_neg (by decide)]
          exact Weak1.nil2
        · simp (dsimp := false) only [go_sem, ↓reduceIte, Nat.reduceEqDiff, Nat.reduceLT, Nat.reduceAdd, Nat.reduceSub, Nat.reduceMul, Nat.reduceLeDiff, reduceCtorEq, Int.reduceNeg, Int.reduceToNat, Int.reduceLT, Int.reduceLE, Int.reduceGE, Int.reduceGT, Int.reduceEq, h5_1]
          have hC : tgsChk lt false kv r tk au tm li s t = 0 := by rw [tgsChk, if_neg (by decide), if_neg (by simp [q1]), if_neg (by omega), if_neg (by omega), if_neg (by simp [h4_0, h4_1]), if_neg (by omega)]
          (try refine AW.draw (M := []) [.v, .v, .v, .v, .v, .v, .e, .v, .v, .e, .v] mixed (by kernel_rfl) ?_)
          (try simp (dsimp := false) only [go_sem, ↓reduceIte, Nat.reduceEqDiff, Nat.reduceLT, Nat.reduceAdd, Nat.reduceSub, Nat.reduceMul, Nat.reduceLeDiff, reduceCtorEq, Int.reduceNeg, Int.reduceToNat, Int.reduceLT, Int.reduceLE, Int.reduceGE, Int.reduceGT, Int.reduceEq])
          refine ACs.pure p7 ?_
          (try simp (dsimp := false) only [go_sem, ↓reduceIte, Nat.reduceEqDiff, Nat.reduceLT, Nat.reduceAdd, Nat.reduceSub, Nat.reduceMul, Nat.reduceLeDiff, reduceCtorEq, Int.reduceNeg, Int.reduceToNat, Int.reduceLT, Int.reduceLE, Int.reduceGE, Int.reduceGT, Int.reduceEq])
          refine ACs.pure p8 ?_
          (try simp (dsimp := false) only [go_sem, ↓reduceIte, Nat.reduceEqDiff, Nat.reduceLT, Nat.reduceAdd, Nat.reduceSub, Nat.reduceMul, Nat.reduceLeDiff, reduceCtorEq, Int.reduceNeg, Int.reduceToNat, Int.reduceLT, Int.reduceLE, Int.reduceGE, Int.reduceGT, Int.reduceEq])
          (try refine AW.draw (M := []) [.v, .v, .v, .e, .v, .v, .e, .v, .v] mixed (by kernel_rfl) ?_)
          (try simp (dsimp := false) only [go_sem, ↓reduceIte, Nat.reduceEqDiff, Nat.reduceLT, Nat.reduceAdd, Nat.reduceSub, Nat.reduceMul, Nat.reduceLeDiff, reduceCtorEq, Int.reduceNeg, Int.reduceToNat, Int.reduceLT, Int.reduceLE, Int.reduceGE, Int.reduceGT, Int.reduceEq])
          refine ACs.pure p9 ?_
          (try simp (dsimp := false) only [go_sem, ↓reduceIte, Nat.reduceEqDiff, Nat.reduceLT, Nat.reduceAdd, Nat.reduceSub, Nat.reduceMul, Nat.reduceLeDiff, reduceCtorEq, Int.reduceNeg, Int.reduceToNat, Int.reduceLT, Int.reduceLE, Int.reduceGE, Int.reduceGT, Int.reduceEq])
          refine ACs.pure p10 ?_
          (try simp (dsimp := false) only [go_sem, ↓reduceIte, Nat.reduceEqDiff, Nat.reduceLT, Nat.reduceAdd, Nat.reduceSub, Nat.reduceMul, Nat.reduceLeDiff, reduceCtorEq, Int.reduceNeg, Int.reduceToNat, Int.reduceLT, Int.reduceLE, Int.reduceGE, Int.reduceGT, Int.reduceEq])
          rw [tgsE, hC, if_pos rfl, hfin]
          exact ⟨_, Weak1.refl _ _⟩
    · simp (dsimp := false) only [go_sem, ↓reduceIte, Nat.reduceEqDiff, Nat.reduceLT, Nat.reduceAdd, Nat.reduceSub, Nat.reduceMul, Nat.reduceLeDiff, reduceCtorEq, Int.reduceNeg, Int.reduceToNat, Int.reduceLT, Int.reduceLE, Int.reduceGE, Int.reduceGT, Int.reduceEq, h4_1]
      have hC : tgsChk lt false kv r tk au tm li s t = 103 := by rw [tgsChk, if_neg (by decide), if_neg (by simp [q1]), if_neg (by omega), if_neg (by omega), if_pos (by simp [h4_1])]
      refine ⟨noOwn, ?_⟩
      rw [tgsE, hC, if_neg (by decide)]
      exact Weak1.nil2
  · simp (dsimp := false) only [go_sem, ↓reduceIte, Nat.reduceEqDiff, Nat.reduceLT, Nat.reduceAdd, Nat.reduceSub, Nat.reduceMul, Nat.reduceLeDiff, reduceCtorEq, Int.reduceNeg, Int.reduceToNat, Int.reduceLT, Int.reduceLE, Int.reduceGE, Int.reduceGT, Int.reduceEq, h4_0]
    have hC : tgsChk lt false kv r tk au tm li s t = 103 := by rw [tgsChk, if_neg (by decide), if_neg (by simp [q1]), if_neg (by omega), if_neg (by omega), if_pos (by simp [h4_0])]
    refine ⟨noOwn, ?_⟩
    rw [tgsE, hC, if_neg (by decide)]
    exact Weak1.nil2
set_option maxHeartbeats 8000000 in
theorem rtgsEncode_pure (lt mu : Bool) (kv : Int) (r : ByteArray) (tk au : List UInt8) (tm li : Int) (s t : ByteArray) (zr : r.size ≤ 100000) (ztk : tk.length ≤ 100000) (zau : au.length ≤ 100000) (zs : s.size ≤ 100000) (zt : t.size ≤ 100000) :
    PC Tryz.prog 30 [tgsA lt mu kv r tk au tm li s t] (tgsE lt mu kv r tk au tm li s t) := by
  refine PC.post ?_
  obtain ⟨b0, e0⟩ : ∃ b, b = hdB 3 lt := ⟨_, rfl⟩
  have l0 : b0.length = 2 := by rw [e0]; rfl
  obtain ⟨b1, e1⟩ : ∃ b, b0 ++ [u8 kv] = b := ⟨_, rfl⟩
  have l1 : b1.length = b0.length + 1 := by rw [← e1, List.length_append] <;> first | rfl | simp only [prinB_length, numB_length, textB_length]
  obtain ⟨b2, e2⟩ : ∃ b, b1 ++ textB r = b := ⟨_, rfl⟩
  have l2 : b2.length = b1.length + (r.size + 1) := by rw [← e2, List.length_append] <;> first | rfl | simp only [prinB_length, numB_length, textB_length]
  obtain ⟨b3, e3⟩ : ∃ b, b2 ++ [u8 (tk.length : Int)] = b := ⟨_, rfl⟩
  have l3 : b3.length = b2.length + 1 := by rw [← e3, List.length_append] <;> first | rfl | simp only [prinB_length, numB_length, textB_length]
  obtain ⟨b4, e4⟩ : ∃ b, b3 ++ [u8 (au.length : Int)] = b := ⟨_, rfl⟩
  have l4 : b4.length = b3.length + 1 := by rw [← e4, List.length_append] <;> first | rfl | simp only [prinB_length, numB_length, textB_length]
  obtain ⟨b5, e5⟩ : ∃ b, b4 ++ tk = b := ⟨_, rfl⟩
  have l5 : b5.length = b4.length + tk.length := by rw [← e5, List.length_append] <;> first | rfl | simp only [prinB_length, numB_length, textB_length]
  obtain ⟨b6, e6⟩ : ∃ b, b5 ++ au = b := ⟨_, rfl⟩
  have l6 : b6.length = b5.length + au.length := by rw [← e6, List.length_append] <;> first | rfl | simp only [prinB_length, numB_length, textB_length]
  obtain ⟨b7, e7⟩ : ∃ b, b6 ++ numB tm 4 lt = b := ⟨_, rfl⟩
  have l7 : b7.length = b6.length + 4 := by rw [← e7, List.length_append] <;> first | rfl | simp only [prinB_length, numB_length, textB_length]
  obtain ⟨b8, e8⟩ : ∃ b, b7 ++ [u8 li] = b := ⟨_, rfl⟩
  have l8 : b8.length = b7.length + 1 := by rw [← e8, List.length_append] <;> first | rfl | simp only [prinB_length, numB_length, textB_length]
  obtain ⟨b9, e9⟩ : ∃ b, b8 ++ textB s = b := ⟨_, rfl⟩
  have l9 : b9.length = b8.length + (s.size + 1) := by rw [← e9, List.length_append] <;> first | rfl | simp only [prinB_length, numB_length, textB_length]
  obtain ⟨b10, e10⟩ : ∃ b, b9 ++ textB t = b := ⟨_, rfl⟩
  have l10 : b10.length = b9.length + (t.size + 1) := by rw [← e10, List.length_append] <;> first | rfl | simp only [prinB_length, numB_length, textB_length]
  have hfin : tgsB lt mu kv r tk au tm li s t = b10 := by rw [tgsB, tgsF, ← e10, ← e9, ← e8, ← e7, ← e6, ← e5, ← e4, ← e3, ← e2, ← e1, e0]; simp only [List.append_assoc]
  have p1 := rPutOctet_pure b0 kv (by omega)
  rw [e1] at p1
  have p2 := rPutText_pure b1 r (by omega)
  rw [e2] at p2
  have p3 := rPutOctet_pure b2 (tk.length : Int) (by omega)
  rw [e3] at p3
  have p4 := rPutOctet_pure b3 (au.length : Int) (by omega)
  rw [e4] at p4
  have p7 := rPutNumber_pure b6 tm lt (by omega)
  rw [e7] at p7
  have p8 := rPutOctet_pure b7 li (by omega)
  rw [e8] at p8
  have p9 := rPutText_pure b8 s (by omega)
  rw [e9] at p9
  have p10 := rPutText_pure b9 t (by omega)
  rw [e10] at p10
  have hA := rapEncode_pure lt mu kv r tk au zr ztk zau
  unfold apA apE at hA
  unfold tgsA
  refine AC.of_body (M := []) Tryz.func30 rfl (by kernel_rfl) (Nat.le_of_ble_eq_true rfl) ?_; simp only [Tryz.results30, Tryz.ntmps30]
  simp (dsimp := false) only [go_sem, ↓reduceIte, Nat.reduceEqDiff, Nat.reduceLT, Nat.reduceAdd, Nat.reduceSub, Nat.reduceMul, Nat.reduceLeDiff, reduceCtorEq, Int.reduceNeg, Int.reduceToNat, Int.reduceLT, Int.reduceLE, Int.reduceGE, Int.reduceGT, Int.reduceEq]
  rcases Bool.eq_false_or_eq_true mu with hm | hm
  · subst hm
    simp (dsimp := false) only [go_sem, ↓reduceIte, Nat.reduceEqDiff, Nat.reduceLT, Nat.reduceAdd, Nat.reduceSub, Nat.reduceMul, Nat.reduceLeDiff, reduceCtorEq, Int.reduceNeg, Int.reduceToNat, Int.reduceLT, Int.reduceLE, Int.reduceGE, Int.reduceGT, Int.reduceEq]
    have hC : tgsChk lt true kv r tk au tm li s t = 100 := by rw [tgsChk, if_pos rfl]
    refine ⟨noOwn, ?_⟩
    rw [tgsE, hC, if_neg (by decide)]
    exact Weak1.nil2
  subst hm
  simp (dsimp := false) only [go_sem, ↓reduceIte, Nat.reduceEqDiff, Nat.reduceLT, Nat.reduceAdd, Nat.reduceSub, Nat.reduceMul, Nat.reduceLeDiff, reduceCtorEq, Int.reduceNeg, Int.reduceToNat, Int.reduceLT, Int.reduceLE, Int.reduceGE, Int.reduceGT, Int.reduceEq]
  refine ACs.pure hA ?_
  by_cases hap : apChk lt false kv r tk au = 0
  rotate_left
  · simp (dsimp := false) only [go_sem, ↓reduceIte, Nat.reduceEqDiff, Nat.reduceLT, Nat.reduceAdd, Nat.reduceSub, Nat.reduceMul, Nat.reduceLeDiff, reduceCtorEq, Int.reduceNeg, Int.reduceToNat, Int.reduceLT, Int.reduceLE, Int.reduceGE, Int.reduceGT, Int.reduceEq, hap]
    have hC := tgsChk_ap lt kv r tk au tm li s t hap
    refine ⟨noOwn, ?_⟩
    rw [tgsE, hC, if_neg hap]
    exact Weak1.nil2
  obtain ⟨q1, q2, q3, q4⟩ := apChk_ok hap
  have hB6 : apB lt false kv r tk au = b6 := by
    rw [apB, apF, ← e6, ← e5, ← e4, ← e3, ← e2, ← e1, e0]
    simp only [List.append_assoc]
    rfl
  simp (dsimp := false) only [go_sem, ↓reduceIte, Nat.reduceEqDiff, Nat.reduceLT, Nat.reduceAdd, Nat.reduceSub, Nat.reduceMul, Nat.reduceLeDiff, reduceCtorEq, Int.reduceNeg, Int.reduceToNat, Int.reduceLT, Int.reduceLE, Int.reduceGE, Int.reduceGT, Int.reduceEq, hap, hB6]
  refine ACs.pure (rValidName_pure s (by omega)) ?_
  rcases Bool.eq_false_or_eq_true (nameB s) with h4_0 | h4_0
  · simp (dsimp := false) only [go_sem, ↓reduceIte, Nat.reduceEqDiff, Nat.reduceLT, Nat.reduceAdd, Nat.reduceSub, Nat.reduceMul, Nat.reduceLeDiff, reduceCtorEq, Int.reduceNeg, Int.reduceToNat, Int.reduceLT, Int.reduceLE, Int.reduceGE, Int.reduceGT, Int.reduceEq, h4_0]
    refine ACs.pure (rValidInstance_pure t (by omega)) ?_
    rcases Bool.eq_false_or_eq_true (instB t) with h4_1 | h4_1
    · simp (dsimp := false) only [go_sem, ↓reduceIte, Nat.reduceEqDiff, Nat.reduceLT, Nat.reduceAdd, Nat.reduceSub, Nat.reduceMul, Nat.reduceLeDiff, reduceCtorEq, Int.reduceNeg, Int.reduceToNat, Int.reduceLT, Int.reduceLE, Int.reduceGE, Int.reduceGT, Int.reduceEq, h4_1]
      refine ACs.pure (within10_pure tm _) ?_
      by_cases h5_0 : tm ≥ 0 ∧ tm ≤ 4294967295
      rotate_left
      · simp (dsimp := false) only [go_sem, ↓reduceIte, Nat.reduceEqDiff, Nat.reduceLT, Nat.reduceAdd, Nat.reduceSub, Nat.reduceMul, Nat.reduceLeDiff, reduceCtorEq, Int.reduceNeg, Int.reduceToNat, Int.reduceLT, Int.reduceLE, Int.reduceGE, Int.reduceGT, Int.reduceEq, h5_0]
        have hC : tgsChk lt false kv r tk au tm li s t = 104 := by rw [tgsChk, if_neg (by decide), if_neg (by simp [q1]), if_neg (by omega), if_neg (by omega), if_neg (by simp [h4_0, h4_1]), if_pos (by omega)]
        refine ⟨noOwn, ?_⟩
        rw [tgsE, hC, if_neg (by decide)]
        exact Weak1.nil2
      · simp (dsimp := false) only [go_sem, ↓reduceIte, Nat.reduceEqDiff, Nat.reduceLT, Nat.reduceAdd, Nat.reduceSub, Nat.reduceMul, Nat.reduceLeDiff, reduceCtorEq, Int.reduceNeg, Int.reduceToNat, Int.reduceLT, Int.reduceLE, Int.reduceGE, Int.reduceGT, Int.reduceEq, h5_0]
        refine ACs.pure (within10_pure li _) ?_
        by_cases h5_1 : li ≥ 0 ∧ li ≤ 255
        rotate_left
        · simp (dsimp := false) only [go_sem, ↓reduceIte, Nat.reduceEqDiff, Nat.reduceLT, Nat.reduceAdd, Nat.reduceSub, Nat.reduceMul, Nat.reduceLeDiff, reduceCtorEq, Int.reduceNeg, Int.reduceToNat, Int.reduceLT, Int.reduceLE, Int.reduceGE, Int.reduceGT, Int.reduceEq, h5_1]
          have hC : tgsChk lt false kv r tk au tm li s t = 104 := by rw [tgsChk, if_neg (by decide), if_neg (by simp [q1]), if_neg (by omega), if_neg (by omega), if_neg (by simp [h4_0, h4_1]), if_pos (by omega)]
          refine ⟨noOwn, ?_⟩
          rw [tgsE, hC, if_neg (by decide)]
          exact Weak1.nil2
        · simp (dsimp := false) only [go_sem, ↓reduceIte, Nat.reduceEqDiff, Nat.reduceLT, Nat.reduceAdd, Nat.reduceSub, Nat.reduceMul, Nat.reduceLeDiff, reduceCtorEq, Int.reduceNeg, Int.reduceToNat, Int.reduceLT, Int.reduceLE, Int.reduceGE, Int.reduceGT, Int.reduceEq, h5_1]
          have hC : tgsChk lt false kv r tk au tm li s t = 0 := by rw [tgsChk, if_neg (by decide), if_neg (by simp [q1]), if_neg (by omega), if_neg (by omega), if_neg (by simp [h4_0, h4_1]), if_neg (by omega)]
          (try refine AW.draw (M := []) [.v, .v, .v, .v, .v, .v, .e, .v, .v, .e, .v] mixed (by kernel_rfl) ?_)
          (try simp (dsimp := false) only [go_sem, ↓reduceIte, Nat.reduceEqDiff, Nat.reduceLT, Nat.reduceAdd, Nat.reduceSub, Nat.reduceMul, Nat.reduceLeDiff, reduceCtorEq, Int.reduceNeg, Int.reduceToNat, Int.reduceLT, Int.reduceLE, Int.reduceGE, Int.reduceGT, Int.reduceEq])
          refine ACs.pure p7 ?_
          (try simp (dsimp := false) only [go_sem, ↓reduceIte, Nat.reduceEqDiff, Nat.reduceLT, Nat.reduceAdd, Nat.reduceSub, Nat.reduceMul, Nat.reduceLeDiff, reduceCtorEq, Int.reduceNeg, Int.reduceToNat, Int.reduceLT, Int.reduceLE, Int.reduceGE, Int.reduceGT, Int.reduceEq])
          refine ACs.pure p8 ?_
          (try simp (dsimp := false) only [go_sem, ↓reduceIte, Nat.reduceEqDiff, Nat.reduceLT, Nat.reduceAdd, Nat.reduceSub, Nat.reduceMul, Nat.reduceLeDiff, reduceCtorEq, Int.reduceNeg, Int.reduceToNat, Int.reduceLT, Int.reduceLE, Int.reduceGE, Int.reduceGT, Int.reduceEq])
          (try refine AW.draw (M := []) [.v, .v, .v, .e, .v, .v, .e, .v, .v] mixed (by kernel_rfl) ?_)
          (try simp (dsimp := false) only [go_sem, ↓reduceIte, Nat.reduceEqDiff, Nat.reduceLT, Nat.reduceAdd, Nat.reduceSub, Nat.reduceMul, Nat.reduceLeDiff, reduceCtorEq, Int.reduceNeg, Int.reduceToNat, Int.reduceLT, Int.reduceLE, Int.reduceGE, Int.reduceGT, Int.reduceEq])
          refine ACs.pure p9 ?_
          (try simp (dsimp := false) only [go_sem, ↓reduceIte, Nat.reduceEqDiff, Nat.reduceLT, Nat.reduceAdd, Nat.reduceSub, Nat.reduceMul, Nat.reduceLeDiff, reduceCtorEq, Int.reduceNeg, Int.reduceToNat, Int.reduceLT, Int.reduceLE, Int.reduceGE, Int.reduceGT, Int.reduceEq])
          refine ACs.pure p10 ?_
          (try simp (dsimp := false) only [go_sem, ↓reduceIte, Nat.reduceEqDiff, Nat.reduceLT, Nat.reduceAdd, Nat.reduceSub, Nat.reduceMul, Nat.reduceLeDiff, reduceCtorEq, Int.reduceNeg, Int.reduceToNat, Int.reduceLT, Int.reduceLE, Int.reduceGE, Int.reduceGT, Int.reduceEq])
          rw [tgsE, hC, if_pos rfl, hfin]
          exact ⟨_, Weak1.refl _ _⟩
    · simp (dsimp := false) only [go_sem, ↓reduceIte, Nat.reduceEqDiff, Nat.reduceLT, Nat.reduceAdd, Nat.reduceSub, Nat.reduceMul, Nat.reduceLeDiff, reduceCtorEq, Int.reduceNeg, Int.reduceToNat, Int.reduceLT, Int.reduceLE, Int.reduceGE, Int.reduceGT, Int.reduceEq, h4_1]
      have hC : tgsChk lt false kv r tk au tm li s t = 103 := by rw [tgsChk, if_neg (by decide), if_neg (by simp [q1]), if_neg (by omega), if_neg (by omega), if_pos (by simp [h4_1])]
      refine ⟨noOwn, ?_⟩
      rw [tgsE, hC, if_neg (by decide)]
      exact Weak1.nil2
  · simp (dsimp := false) only [go_sem, ↓reduceIte, Nat.reduceEqDiff, Nat.reduceLT, Nat.reduceAdd, Nat.reduceSub, Nat.reduceMul, Nat.reduceLeDiff, reduceCtorEq, Int.reduceNeg, Int.reduceToNat, Int.reduceLT, Int.reduceLE, Int.reduceGE, Int.reduceGT, Int.reduceEq, h4_0]
    have hC : tgsChk lt false kv r tk au tm li s t = 103 := by rw [tgsChk, if_neg (by decide), if_neg (by simp [q1]), if_neg (by omega), if_neg (by omega), if_pos (by simp [h4_0])]
    refine ⟨noOwn, ?_⟩
    rw [tgsE, hC, if_neg (by decide)]
    exact Weak1.nil2
set_option maxHeartbeats 8000000 in
theorem tgsDecode_pn (b : List UInt8) (hn : b.length ≤ 140737488355000) : PN Tryz.prog 36 [.lst 1 (b.map byteA)] (tgsDec b) := by
  refine PN.post ?_
  obtain ⟨⟨lt, e⟩, hI⟩ : ∃ x, hdIs b [3] = x := ⟨_, rfl⟩
  have hP := hdIs_pure b [3] hn (by simp)
  rw [hI] at hP
  simp only [List.map_cons, List.map_nil, iA] at hP
  by_cases he : e = 0
  rotate_left
  · refine AC.of_body (M := []) Tryz.func36 rfl (by kernel_rfl) (Nat.le_of_ble_eq_true rfl) ?_; simp only [Tryz.results36, Tryz.ntmps36]
    simp (dsimp := false) only [go_sem, ↓reduceIte, Nat.reduceEqDiff, Nat.reduceLT, Nat.reduceAdd, Nat.reduceSub, Nat.reduceMul, Nat.reduceLeDiff, reduceCtorEq, Int.reduceNeg, Int.reduceToNat, Int.reduceLT, Int.reduceLE, Int.reduceGE, Int.reduceGT, Int.reduceEq]
    intro k1 hk1
    refine ACs.pure hP ?_
    simp (dsimp := false) only [go_sem, ↓reduceIte, Nat.reduceEqDiff, Nat.reduceLT, Nat.reduceAdd, Nat.reduceSub, Nat.reduceMul, Nat.reduceLeDiff, reduceCtorEq, Int.reduceNeg, Int.reduceToNat, Int.reduceLT, Int.reduceLE, Int.reduceGE, Int.reduceGT, Int.reduceEq, he]
    refine ⟨.tup [tgsZ, .raw (.int .i64 e)], _, tgsZ_weak, .inr ⟨fun lt' mu' kv' r' tk' au' tm' li' s' t' h => ?_, by rw [tgsErr, hI, if_neg he]⟩⟩
    have := hI.symm.trans h.hd
    simp only [Prod.mk.injEq] at this
    exact he this.2
  · subst he
    have herr : tgsErr b = 100 := by rw [tgsErr, hI]; rfl
    have o0 : 0 ≤ ((2 : Int), false).1 ∧ ((2 : Int), false).1 ≤ b.length := ⟨by decide, hdIs_len hI⟩
    obtain ⟨x1, e1⟩ : ∃ x, cNum b 1 false (2, false) = x := ⟨_, rfl⟩
    have o1 : 0 ≤ x1.2.1 ∧ x1.2.1 ≤ b.length := by rw [← e1]; exact cNum_ok o0.1 o0.2
    obtain ⟨x2, e2⟩ : ∃ x, cTxt b x1.2 = x := ⟨_, rfl⟩
    have o2 : 0 ≤ x2.2.1 ∧ x2.2.1 ≤ b.length := by rw [← e2]; exact cTxt_ok o1.1 o1.2
    have z2 : x2.1.size ≤ 39 := by rw [← e2]; exact cTxt_small _ _
    obtain ⟨x3, e3⟩ : ∃ x, cNum b 1 false x2.2 = x := ⟨_, rfl⟩
    have o3 : 0 ≤ x3.2.1 ∧ x3.2.1 ≤ b.length := by rw [← e3]; exact cNum_ok o2.1 o2.2
    obtain ⟨x4, e4⟩ : ∃ x, cNum b 1 false x3.2 = x := ⟨_, rfl⟩
    have o4 : 0 ≤ x4.2.1 ∧ x4.2.1 ≤ b.length := by rw [← e4]; exact cNum_ok o3.1 o3.2
    obtain ⟨x5, e5⟩ : ∃ x, cByt b x3.1 x4.2 = x := ⟨_, rfl⟩
    have hp5 : 0 ≤ x3.1 := by rw [← e3]; exact cNum_nn _ _ _ _
    have hq5 : x3.1 ≤ 65535 := by rw [← e3]; exact cNum_le _ _ _ _ (by decide)
    have o5 : 0 ≤ x5.2.1 ∧ x5.2.1 ≤ b.length := by rw [← e5]; exact cByt_ok o4.1 o4.2 hp5
    have zl5 : x5.1.length ≤ 65535 := by rw [← e5]; exact cByt_le _ _ _ () (by omega)
    obtain ⟨x6, e6⟩ : ∃ x, cByt b x4.1 x5.2 = x := ⟨_, rfl⟩
    have hp6 : 0 ≤ x4.1 := by rw [← e4]; exact cNum_nn _ _ _ _
    have hq6 : x4.1 ≤ 65535 := by rw [← e4]; exact cNum_le _ _ _ _ (by decide)
    have o6 : 0 ≤ x6.2.1 ∧ x6.2.1 ≤ b.length := by rw [← e6]; exact cByt_ok o5.1 o5.2 hp6
    have zl6 : x6.1.length ≤ 65535 := by rw [← e6]; exact cByt_le _ _ _ () (by omega)
    obtain ⟨x7, e7⟩ : ∃ x, cNum b 4 lt x6.2 = x := ⟨_, rfl⟩
    have o7 : 0 ≤ x7.2.1 ∧ x7.2.1 ≤ b.length := by rw [← e7]; exact cNum_ok o6.1 o6.2
    obtain ⟨x8, e8⟩ : ∃ x, cNum b 1 false x7.2 = x := ⟨_, rfl⟩
    have o8 : 0 ≤ x8.2.1 ∧ x8.2.1 ≤ b.length := by rw [← e8]; exact cNum_ok o7.1 o7.2
    obtain ⟨x9, e9⟩ : ∃ x, cTxt b x8.2 = x := ⟨_, rfl⟩
    have o9 : 0 ≤ x9.2.1 ∧ x9.2.1 ≤ b.length := by rw [← e9]; exact cTxt_ok o8.1 o8.2
    have z9 : x9.1.size ≤ 39 := by rw [← e9]; exact cTxt_small _ _
    obtain ⟨x10, e10⟩ : ∃ x, cTxt b x9.2 = x := ⟨_, rfl⟩
    have o10 : 0 ≤ x10.2.1 ∧ x10.2.1 ≤ b.length := by rw [← e10]; exact cTxt_ok o9.1 o9.2
    have z10 : x10.1.size ≤ 39 := by rw [← e10]; exact cTxt_small _ _
    have hR : tgsR b lt (2, false) = (x1.1, x2.1, x3.1, x4.1, x5.1, x6.1, x7.1, x8.1, x9.1, x10.1, x10.2.2) := by simp only [tgsR, e1, e2, e3, e4, e5, e6, e7, e8, e9, e10]
    have hE := tgsEncode_pure lt false x1.1 x2.1 x5.1 x6.1 x7.1 x8.1 x9.1 x10.1 (by omega) (by omega) (by omega) (by omega) (by omega)
    unfold tgsA tgsE at hE
    have key : ∀ lt' mu' kv' r' tk' au' tm' li' s' t', tgsIs b lt' mu' kv' r' tk' au' tm' li' s' t' → lt' = lt ∧ mu' = false ∧ kv' = x1.1 ∧ r' = x2.1 ∧ tk' = x5.1 ∧ au' = x6.1 ∧ tm' = x7.1 ∧ li' = x8.1 ∧ s' = x9.1 ∧ t' = x10.1 ∧ x10.2.2 = false := fun lt' mu' kv' r' tk' au' tm' li' s' t' h => by
      have hl : lt' = lt := by have := hI.symm.trans h.hd; simp only [Prod.mk.injEq] at this; exact this.1.symm
      subst hl
      have := h.read.symm.trans hR
      simp only [Prod.mk.injEq] at this
      obtain ⟨a0, a1, a2, a3, a4, a5, a6, a7, a8, a9, j⟩ := this
      exact ⟨rfl, h.mu0, a0, a1, a4, a5, a6, a7, a8, a9, j.symm⟩
    refine AC.of_body (M := []) Tryz.func36 rfl (by kernel_rfl) (Nat.le_of_ble_eq_true rfl) ?_; simp only [Tryz.results36, Tryz.ntmps36]
    simp (dsimp := false) only [go_sem, ↓reduceIte, Nat.reduceEqDiff, Nat.reduceLT, Nat.reduceAdd, Nat.reduceSub, Nat.reduceMul, Nat.reduceLeDiff, reduceCtorEq, Int.reduceNeg, Int.reduceToNat, Int.reduceLT, Int.reduceLE, Int.reduceGE, Int.reduceGT, Int.reduceEq]
    intro k1 hk1
    refine ACs.pure hP ?_
    simp (dsimp := false) only [go_sem, ↓reduceIte, Nat.reduceEqDiff, Nat.reduceLT, Nat.reduceAdd, Nat.reduceSub, Nat.reduceMul, Nat.reduceLeDiff, reduceCtorEq, Int.reduceNeg, Int.reduceToNat, Int.reduceLT, Int.reduceLE, Int.reduceGE, Int.reduceGT, Int.reduceEq]
    refine ACs.of (CNew_own b 2 lt _ _ fun k hk => ?_)
    have n1 := none_ne hk
    have a1 : ∀ (own : Own) o, (own.set k1 o) k = own k := fun own o => Own.set_ne _ _ n1
    have a2 : ∀ (own : Own) o, (own.set k o) k1 = own k1 := fun own o => Own.set_ne _ _ (Ne.symm n1)
    simp (dsimp := false) only [go_sem, ↓reduceIte, Nat.reduceEqDiff, Nat.reduceLT, Nat.reduceAdd, Nat.reduceSub, Nat.reduceMul, Nat.reduceLeDiff, reduceCtorEq, Int.reduceNeg, Int.reduceToNat, Int.reduceLT, Int.reduceLE, Int.reduceGE, Int.reduceGT, Int.reduceEq, a1, a2]
    refine ACs.of (apRead_own b lt false (2, false) k _ _ (Own.set_same _ _ _) o0 hn x1 x3 x4 x2 x5 x6 e1 e2 e3 e4 e5 e6 ?_)
    simp (dsimp := false) only [go_sem, ↓reduceIte, Nat.reduceEqDiff, Nat.reduceLT, Nat.reduceAdd, Nat.reduceSub, Nat.reduceMul, Nat.reduceLeDiff, reduceCtorEq, Int.reduceNeg, Int.reduceToNat, Int.reduceLT, Int.reduceLE, Int.reduceGE, Int.reduceGT, Int.reduceEq, a1, a2]
    intro k2 hk2
    have n2 := none_ne hk2
    have hk2' := hk2
    rw [Own.set_ne _ _ n2] at hk2'
    have n12 := none_ne hk2'
    have b1 : ∀ (own : Own) o, (own.set k2 o) k = own k := fun own o => Own.set_ne _ _ (Ne.symm n2)
    have b2 : ∀ (own : Own) o, (own.set k o) k2 = own k2 := fun own o => Own.set_ne _ _ n2
    have b3 : ∀ (own : Own) o, (own.set k2 o) k1 = own k1 := fun own o => Own.set_ne _ _ (Ne.symm n12)
    have b4 : ∀ (own : Own) o, (own.set k1 o) k2 = own k2 := fun own o => Own.set_ne _ _ n12
    clear hk2 hk2' hk hk1
    refine ACs.of (CNumber_own b lt x6.2 k _ _ (by simp only [a1, a2, b1, b2, b3, b4, Own.set_same]) o6.1 o6.2 hn ?_)
    simp (dsimp := false) only [go_sem, ↓reduceIte, Nat.reduceEqDiff, Nat.reduceLT, Nat.reduceAdd, Nat.reduceSub, Nat.reduceMul, Nat.reduceLeDiff, reduceCtorEq, Int.reduceNeg, Int.reduceToNat, Int.reduceLT, Int.reduceLE, Int.reduceGE, Int.reduceGT, Int.reduceEq, e7, a1, a2, b1, b2, b3, b4]
    refine ACs.of (COctet_own b lt x7.2 k _ _ (by simp only [a1, a2, b1, b2, b3, b4, Own.set_same]) o7.1 o7.2 hn ?_)
    simp (dsimp := false) only [go_sem, ↓reduceIte, Nat.reduceEqDiff, Nat.reduceLT, Nat.reduceAdd, Nat.reduceSub, Nat.reduceMul, Nat.reduceLeDiff, reduceCtorEq, Int.reduceNeg, Int.reduceToNat, Int.reduceLT, Int.reduceLE, Int.reduceGE, Int.reduceGT, Int.reduceEq, e8, a1, a2, b1, b2, b3, b4]
    refine ACs.of (CText_own b lt x8.2 k _ _ (by simp only [a1, a2, b1, b2, b3, b4, Own.set_same]) hn ?_)
    simp (dsimp := false) only [go_sem, ↓reduceIte, Nat.reduceEqDiff, Nat.reduceLT, Nat.reduceAdd, Nat.reduceSub, Nat.reduceMul, Nat.reduceLeDiff, reduceCtorEq, Int.reduceNeg, Int.reduceToNat, Int.reduceLT, Int.reduceLE, Int.reduceGE, Int.reduceGT, Int.reduceEq, e9, a1, a2, b1, b2, b3, b4]
    refine ACs.of (CText_own b lt x9.2 k _ _ (by simp only [a1, a2, b1, b2, b3, b4, Own.set_same]) hn ?_)
    simp (dsimp := false) only [go_sem, ↓reduceIte, Nat.reduceEqDiff, Nat.reduceLT, Nat.reduceAdd, Nat.reduceSub, Nat.reduceMul, Nat.reduceLeDiff, reduceCtorEq, Int.reduceNeg, Int.reduceToNat, Int.reduceLT, Int.reduceLE, Int.reduceGE, Int.reduceGT, Int.reduceEq, e10, a1, a2, b1, b2, b3, b4]
    refine ACs.pure hE ?_
    simp (dsimp := false) only [go_sem, ↓reduceIte, Nat.reduceEqDiff, Nat.reduceLT, Nat.reduceAdd, Nat.reduceSub, Nat.reduceMul, Nat.reduceLeDiff, reduceCtorEq, Int.reduceNeg, Int.reduceToNat, Int.reduceLT, Int.reduceLE, Int.reduceGE, Int.reduceGT, Int.reduceEq, a1, a2, b1, b2, b3, b4]
    refine ACs.of (CBad_own b lt x10.2 k _ _ (by simp only [a1, a2, b1, b2, b3, b4, Own.set_same]) ?_)
    rcases Bool.eq_false_or_eq_true x10.2.2 with hb | hb
    · simp (dsimp := false) only [go_sem, ↓reduceIte, Nat.reduceEqDiff, Nat.reduceLT, Nat.reduceAdd, Nat.reduceSub, Nat.reduceMul, Nat.reduceLeDiff, reduceCtorEq, Int.reduceNeg, Int.reduceToNat, Int.reduceLT, Int.reduceLE, Int.reduceGE, Int.reduceGT, Int.reduceEq, hb, a1, a2, b1, b2, b3, b4]
      refine ⟨.tup [tgsZ, .raw (.int .i64 100)], _, tgsZ_weak, .inr ⟨fun lt' mu' kv' r' tk' au' tm' li' s' t' h => ?_, by rw [herr]⟩⟩
      rw [(key _ _ _ _ _ _ _ _ _ _ h).2.2.2.2.2.2.2.2.2.2] at hb
      cases hb
    by_cases hc : tgsChk lt false x1.1 x2.1 x5.1 x6.1 x7.1 x8.1 x9.1 x10.1 = 0
    · simp (dsimp := false) only [go_sem, ↓reduceIte, Nat.reduceEqDiff, Nat.reduceLT, Nat.reduceAdd, Nat.reduceSub, Nat.reduceMul, Nat.reduceLeDiff, reduceCtorEq, Int.reduceNeg, Int.reduceToNat, Int.reduceLT, Int.reduceLE, Int.reduceGE, Int.reduceGT, Int.reduceEq, hb, hc, a1, a2, b1, b2, b3, b4]
      refine ACs.pure (Equal_pure _ b) ?_
      by_cases hq : tgsB lt false x1.1 x2.1 x5.1 x6.1 x7.1 x8.1 x9.1 x10.1 = b
      · simp (dsimp := false) only [go_sem, ↓reduceIte, Nat.reduceEqDiff, Nat.reduceLT, Nat.reduceAdd, Nat.reduceSub, Nat.reduceMul, Nat.reduceLeDiff, reduceCtorEq, Int.reduceNeg, Int.reduceToNat, Int.reduceLT, Int.reduceLE, Int.reduceGE, Int.reduceGT, Int.reduceEq, hq, a1, a2, b1, b2, b3, b4]
        exact ⟨_, _, Weak1.refl _ _, .inl ⟨_, _, _, _, _, _, _, _, _, _, ⟨hc, hq⟩, rfl⟩⟩
      · simp (dsimp := false) only [go_sem, ↓reduceIte, Nat.reduceEqDiff, Nat.reduceLT, Nat.reduceAdd, Nat.reduceSub, Nat.reduceMul, Nat.reduceLeDiff, reduceCtorEq, Int.reduceNeg, Int.reduceToNat, Int.reduceLT, Int.reduceLE, Int.reduceGE, Int.reduceGT, Int.reduceEq, hq, a1, a2, b1, b2, b3, b4]
        refine ⟨.tup [tgsZ, .raw (.int .i64 100)], _, tgsZ_weak, .inr ⟨fun lt' mu' kv' r' tk' au' tm' li' s' t' h => ?_, by rw [herr]⟩⟩
        obtain ⟨rfl, rfl, rfl, rfl, rfl, rfl, rfl, rfl, rfl, rfl, _⟩ := key _ _ _ _ _ _ _ _ _ _ h
        exact hq h.2
    · simp (dsimp := false) only [go_sem, ↓reduceIte, Nat.reduceEqDiff, Nat.reduceLT, Nat.reduceAdd, Nat.reduceSub, Nat.reduceMul, Nat.reduceLeDiff, reduceCtorEq, Int.reduceNeg, Int.reduceToNat, Int.reduceLT, Int.reduceLE, Int.reduceGE, Int.reduceGT, Int.reduceEq, hb, hc, a1, a2, b1, b2, b3, b4]
      refine ⟨.tup [tgsZ, .raw (.int .i64 100)], _, tgsZ_weak, .inr ⟨fun lt' mu' kv' r' tk' au' tm' li' s' t' h => ?_, by rw [herr]⟩⟩
      obtain ⟨rfl, rfl, rfl, rfl, rfl, rfl, rfl, rfl, rfl, rfl, _⟩ := key _ _ _ _ _ _ _ _ _ _ h
      exact hc (tgsOk_chk h.1)
end Go.Proofs.YtghnigbihllnmaaGreat.Fn
