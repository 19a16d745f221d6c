/- What was written is read: plain facts on bytes. -/
import Derived.Test.YtghnigbihllnmaaGreatHlC
import Derived.Test.YtghnigbihllnmaaGreatSp1
import Derived.Test.YtghnigbihllnmaaGreatTy
import Derived.Test.YtghnigbihllnmaaGreatFn2
import Derived.Test.YtghnigbihllnmaaGreatFn3
import Derived.Test.YtghnigbihllnmaaGreatFn5
import Derived.Test.YtghnigbihllnmaaGreatFn7
import Derived.Test.YtghnigbihllnmaaGreatFn8
import Derived.Test.YtghnigbihllnmaaGreatFn9
import Derived.Test.YtghnigbihllnmaaGreatFn12
import Derived.Test.YtghnigbihllnmaaGreatFn13
import Derived.Test.YtghnigbihllnmaaGreatFn15
set_option linter.unusedVariables false
set_option linter.unusedSimpArgs false
namespace Go.Proofs.YtghnigbihllnmaaGreat.Fn
open Go Hl Sp Ty
set_option maxRecDepth 100000

theorem readV_num (m : Nat) (size : Nat) (little : Bool) (h : m < 2 ^ (8 * size)) : readV (numB (m : Int) size little) little = m := by
  unfold readV numB
  cases little
  · simp only [Bool.false_eq_true, if_false, List.reverse_reverse]
    rw [readL_low, Nat.mod_eq_of_lt h]
  · simp only [if_true]
    rw [readL_low, Nat.mod_eq_of_lt h]
theorem drop_pre {α : Type} (pre post : List α) : (pre ++ post).drop (pre.length : Int).toNat = post := by
  rw [Int.toNat_natCast, List.drop_left]
theorem readN_num (pre post : List UInt8) (n : Int) (size : Nat) (little : Bool) (h0 : 0 ≤ n) (h1 : n < 2 ^ (8 * size)) :
    readN (pre ++ (numB n size little ++ post)) pre.length size little = (n, (pre.length : Int) + size, 0) := by
  obtain ⟨m, rfl⟩ : ∃ m : Nat, n = m := ⟨n.toNat, by omega⟩
  unfold readN
  rw [if_pos (by simp [numB_length]; omega), drop_pre, List.take_append_of_le_length (by rw [numB_length]; exact Nat.le_refl _), List.take_of_length_le (by rw [numB_length]; exact Nat.le_refl _), readV_num m size little (by exact_mod_cast h1)]
theorem readN_one (pre post : List UInt8) (x : UInt8) : readN (pre ++ (x :: post)) pre.length 1 false = ((x.toNat : Int), (pre.length : Int) + 1, 0) := by
  unfold readN
  rw [if_pos (by simp; omega), drop_pre]
  simp [readV, readL]
theorem cNum_num (pre post : List UInt8) (n : Int) (size : Nat) (little : Bool) (h0 : 0 ≤ n) (h1 : n < 2 ^ (8 * size)) :
    cNum (pre ++ (numB n size little ++ post)) size little (pre.length, false) = (n, ((pre.length : Int) + size, false)) := by
  unfold cNum nextI nextC
  simp only [readN_num pre post n size little h0 h1]
  simp
theorem cNum_one (pre post : List UInt8) (x : UInt8) : cNum (pre ++ (x :: post)) 1 false (pre.length, false) = ((x.toNat : Int), ((pre.length : Int) + 1, false)) := by
  unfold cNum nextI nextC
  simp only [readN_one]
  simp

/-- A text that can be read as it was written. -/
def plainB (s : ByteArray) : Prop := s.size ≤ 39 ∧ (0 : UInt8) ∉ s.data.toList
theorem ib_none {l : List UInt8} {c : UInt8} (h : c ∉ l) : Lib.indexByte l c = -1 := by
  have h1 := (ib_neg l c)
  have h2 := (indexByte_le l c).1
  by_cases h3 : 0 ≤ Lib.indexByte l c
  · have := h1.1 h3
    rw [List.contains_iff_mem] at this
    exact absurd this h
  · omega
theorem textR_text (pre post : List UInt8) (s : ByteArray) (h : plainB s) : textR (pre ++ (textB s ++ post)) pre.length = (s, (pre.length : Int) + s.size + 1, 0) := by
  obtain ⟨h1, h2⟩ := h
  have hz := size_eq s
  unfold textR
  rw [if_neg (by simp; omega)]
  simp only [drop_pre]
  have ht : (textB s ++ post).take 40 = s.data.toList ++ (0 :: post.take (39 - s.data.toList.length)) := by
    unfold textB
    rw [List.append_assoc, List.take_append, List.take_of_length_le (by omega)]
    congr 1
    rw [show 40 - s.data.toList.length = (39 - s.data.toList.length) + 1 by omega]
    rfl
  rw [ht, ib_hit _ _ _ (ib_none h2), if_pos (by omega), Int.toNat_natCast]
  have : (textB s ++ post).take s.data.toList.length = s.data.toList := by
    unfold textB
    rw [List.append_assoc, List.take_left]
  rw [this, hz]
theorem okB_zero (bad : List UInt8) : okB bad 0 = false := by
  unfold okB
  rfl
theorem printB_plain {s : ByteArray} {bad : List UInt8} (h : printB s.data.toList bad = true) : plainB s := by
  have hs := printB_size h
  unfold printB at h
  simp only [Bool.and_eq_true, List.all_eq_true] at h
  refine ⟨by rw [size_eq]; exact hs, fun h0 => ?_⟩
  have := h.1 0 h0
  rw [okB_zero] at this
  cases this
theorem validB_plain {n i r : ByteArray} (h : validB n i r = true) : plainB n ∧ plainB i ∧ plainB r := by
  unfold validB nameB instB realmB at h
  simp only [Bool.and_eq_true] at h
  obtain ⟨⟨⟨_, h1⟩, h2⟩, _, h3⟩ := h
  exact ⟨printB_plain h1, printB_plain h2, printB_plain h3⟩
theorem prinR_prin (pre post : List UInt8) (n i r : ByteArray) (h : validB n i r = true) : prinR (pre ++ (prinB n i r ++ post)) pre.length = ((n, i, r), (pre.length : Int) + (prinB n i r).length, 0) := by
  obtain ⟨p1, p2, p3⟩ := validB_plain h
  have e1 := textR_text pre (textB i ++ textB r ++ post) n p1
  have e2 := textR_text (pre ++ textB n) (textB r ++ post) i p2
  have e3 := textR_text (pre ++ textB n ++ textB i) post r p3
  have a0 : pre ++ (prinB n i r ++ post) = pre ++ (textB n ++ (textB i ++ textB r ++ post)) := by simp [prinB]
  have a1 : pre ++ (textB n ++ (textB i ++ textB r ++ post)) = (pre ++ textB n) ++ (textB i ++ (textB r ++ post)) := by simp
  have a2 : (pre ++ textB n) ++ (textB i ++ (textB r ++ post)) = (pre ++ textB n ++ textB i) ++ (textB r ++ post) := by simp
  rw [a0]
  unfold prinR
  simp only
  have l1 : ((pre ++ textB n).length : Int) = pre.length + n.size + 1 := by simp [textB_length]; omega
  have l2 : ((pre ++ textB n ++ textB i).length : Int) = pre.length + n.size + 1 + i.size + 1 := by simp [textB_length]; omega
  rw [← a1, l1] at e2
  rw [← a2, ← a1, l2] at e3
  rw [e1]
  simp only [ne_eq, not_true_eq_false, if_false]
  rw [e2]
  simp only [ne_eq, not_true_eq_false, if_false]
  rw [e3]
  simp only [ne_eq, not_true_eq_false, if_false, h, if_true, prinB_length]
  congr 2
  omega
theorem cPrin_prin (pre post : List UInt8) (n i r : ByteArray) (h : validB n i r = true) : cPrin (pre ++ (prinB n i r ++ post)) (pre.length, false) = ((n, i, r), ((pre.length : Int) + (prinB n i r).length, false)) := by
  unfold cPrin nextP nextC
  simp only [prinR_prin pre post n i r h]
  simp

/-- What a cursor reads of an authenticator. -/
def authR (b : List UInt8) (little : Bool) : (ByteArray × ByteArray × ByteArray) × Int × Int × Int × Bool :=
  let s1 := (cNum b 1 false (0, false)).2
  let p := cPrin b s1
  let c := cNum b 4 little p.2
  let t := cNum b 1 false c.2
  let m := cNum b 4 little t.2
  (p.1, c.1, t.1, m.1, m.2.2)
theorem authR_auth (n i r : ByteArray) (c t m : Int) (little : Bool) (h : AuthOk n i r c t m) (post : List UInt8) : authR (authPre n i r c t m little ++ post) little = ((n, i, r), c, t, m, false) := by
  obtain ⟨h1, h2, h3, h4, h5, h6, h7⟩ := h
  obtain ⟨b, hb⟩ : ∃ b, b = authPre n i r c t m little ++ post := ⟨_, rfl⟩
  obtain ⟨f, hf⟩ : ∃ f, f = u8 (flagZ little) := ⟨_, rfl⟩
  have hu : ((u8 t).toNat : Int) = t := by rw [u8_toNat]; omega
  have q0 : b = [] ++ (f :: (prinB n i r ++ (numB c 4 little ++ (u8 t :: (numB m 4 little ++ post))))) := by rw [hb, hf]; simp [authPre]
  have q1 : b = [f] ++ (prinB n i r ++ (numB c 4 little ++ (u8 t :: (numB m 4 little ++ post)))) := by rw [q0]; simp
  have q2 : b = ([f] ++ prinB n i r) ++ (numB c 4 little ++ (u8 t :: (numB m 4 little ++ post))) := by rw [q0]; simp
  have q3 : b = ([f] ++ prinB n i r ++ numB c 4 little) ++ (u8 t :: (numB m 4 little ++ post)) := by rw [q0]; simp
  have q4 : b = ([f] ++ prinB n i r ++ numB c 4 little ++ [u8 t]) ++ (numB m 4 little ++ post) := by rw [q0]; simp
  have r0 := cNum_one [] (prinB n i r ++ (numB c 4 little ++ (u8 t :: (numB m 4 little ++ post)))) f
  have r1 := cPrin_prin [f] (numB c 4 little ++ (u8 t :: (numB m 4 little ++ post))) n i r h1
  have r2 := cNum_num ([f] ++ prinB n i r) (u8 t :: (numB m 4 little ++ post)) c 4 little h2 (by omega)
  have r3 := cNum_one ([f] ++ prinB n i r ++ numB c 4 little) (numB m 4 little ++ post) (u8 t)
  have r4 := cNum_num ([f] ++ prinB n i r ++ numB c 4 little ++ [u8 t]) post m 4 little h6 (by omega)
  rw [← q0] at r0; rw [← q1] at r1; rw [← q2] at r2; rw [← q3] at r3; rw [← q4] at r4
  have l1 : (([f] : List UInt8).length : Int) = 0 + 1 := rfl
  have l2 : (([f] ++ prinB n i r).length : Int) = 0 + 1 + (prinB n i r).length := by simp; omega
  have l3 : (([f] ++ prinB n i r ++ numB c 4 little).length : Int) = 0 + 1 + (prinB n i r).length + (4 : Nat) := by simp [numB_length]; omega
  have l4 : (([f] ++ prinB n i r ++ numB c 4 little ++ [u8 t]).length : Int) = 0 + 1 + (prinB n i r).length + (4 : Nat) + 1 := by simp [numB_length]; omega
  have l0 : (([] : List UInt8).length : Int) = 0 := rfl
  rw [l0] at r0; rw [l1] at r1; rw [l2] at r2; rw [l3] at r3; rw [l4] at r4
  rw [← hb]
  unfold authR
  simp only [r0, r1, r2, r3, r4, hu]
end Go.Proofs.YtghnigbihllnmaaGreat.Fn
