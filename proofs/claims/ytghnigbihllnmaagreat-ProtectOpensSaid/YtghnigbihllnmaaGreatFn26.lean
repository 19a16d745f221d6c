/- The reference decodes authenticators; the law on what is decoded. -/
import Derived.Test.YtghnigbihllnmaaGreatHlC
import Derived.Test.YtghnigbihllnmaaGreatSp1
import Derived.Test.YtghnigbihllnmaaGreatTy
import Derived.Test.YtghnigbihllnmaaGreatFn2
import Derived.Test.YtghnigbihllnmaaGreatFn3
import Derived.Test.YtghnigbihllnmaaGreatFn8
import Derived.Test.YtghnigbihllnmaaGreatFn9
import Derived.Test.YtghnigbihllnmaaGreatFn12
import Derived.Test.YtghnigbihllnmaaGreatFn13
import Derived.Test.YtghnigbihllnmaaGreatFn15
import Derived.Test.YtghnigbihllnmaaGreatFn16
import Derived.Test.YtghnigbihllnmaaGreatFn17
import Derived.Test.YtghnigbihllnmaaGreatFn18
import Derived.Test.YtghnigbihllnmaaGreatFn20
import Derived.Test.YtghnigbihllnmaaGreatFn25
set_option linter.unusedVariables false
set_option linter.unusedSimpArgs false
namespace Go.Proofs.YtghnigbihllnmaaGreat.Fn
open Go Hl Sp Ty
set_option maxRecDepth 100000
theorem rNum_num (pre post : List UInt8) (n : Int) (size : Nat) (little : Bool) (h0 : 0 ≤ n) (h1 : n < 2 ^ (8 * size)) :
    rNum (pre ++ (numB n size little ++ post)) size little (pre.length, false) = (n, ((pre.length : Int) + size, false)) := by
  unfold rNum nextC
  simp only [readN_num pre post n size little h0 h1]
  simp
theorem rNum_one (pre post : List UInt8) (x : UInt8) : rNum (pre ++ (x :: post)) 1 false (pre.length, false) = ((x.toNat : Int), ((pre.length : Int) + 1, false)) := by
  unfold rNum nextC
  simp only [readN_one]
  simp
theorem rTxt_text (pre post : List UInt8) (s : ByteArray) (h : plainB s) : rTxt (pre ++ (textB s ++ post)) (pre.length, false) = (s, ((pre.length : Int) + s.size + 1, false)) := by
  unfold rTxt nextC
  simp only [textR_text pre post s h]
  simp
theorem rPrin_prin (pre post : List UInt8) (n i r : ByteArray) (h : validB n i r = true) : rPrin (pre ++ (prinB n i r ++ post)) (pre.length, false) = ((n, i, r), ((pre.length : Int) + (prinB n i r).length, false)) := by
  obtain ⟨p1, p2, p3⟩ := validB_plain h
  have e1 := rTxt_text pre (textB i ++ textB r ++ post) n p1
  have e2 := rTxt_text (pre ++ textB n) (textB r ++ post) i p2
  have e3 := rTxt_text (pre ++ textB n ++ textB i) post r p3
  have a0 : pre ++ (prinB n i r ++ post) = pre ++ (textB n ++ (textB i ++ textB r ++ post)) := by simp [prinB]
  have a1 : pre ++ (textB n ++ (textB i ++ textB r ++ post)) = (pre ++ textB n) ++ (textB i ++ (textB r ++ post)) := by simp
  have a2 : (pre ++ textB n) ++ (textB i ++ (textB r ++ post)) = (pre ++ textB n ++ textB i) ++ (textB r ++ post) := by simp
  rw [a0]
  have l1 : ((pre ++ textB n).length : Int) = pre.length + n.size + 1 := by simp [textB_length]; omega
  have l2 : ((pre ++ textB n ++ textB i).length : Int) = pre.length + n.size + 1 + i.size + 1 := by simp [textB_length]; omega
  rw [← a1, l1] at e2
  rw [← a2, ← a1, l2] at e3
  unfold rPrin
  simp only [e1, e2, e3, prinB_length]
  congr 2
  omega
/-- What a reader reads of an authenticator. -/
def authRr (b : List UInt8) (little : Bool) : (ByteArray × ByteArray × ByteArray) × Int × Int × Int × Bool :=
  let s1 := (rNum b 1 false (0, false)).2
  let p := rPrin b s1
  let c := rNum b 4 little p.2
  let t := rNum b 1 false c.2
  let m := rNum b 4 little t.2
  (p.1, c.1, t.1, m.1, m.2.2)
theorem authRr_auth (n i r : ByteArray) (c t m : Int) (little : Bool) (h : AuthOk n i r c t m) (post : List UInt8) : authRr (authPre n i r c t m little ++ post) little = ((n, i, r), c, t, m, false) := by
  obtain ⟨h1, h2, h3, h4, h5, h6, h7⟩ := h
  obtain ⟨b, hb⟩ : ∃ b, b = authPre n i r c t m little ++ post := ⟨_, rfl⟩
  obtain ⟨f, hf⟩ : ∃ f, f = u8 (flagZ little) := ⟨_, rfl⟩
  have hu : ((u8 t).toNat : Int) = t := by rw [u8_toNat]; omega
  have q0 : b = [] ++ (f :: (prinB n i r ++ (numB c 4 little ++ (u8 t :: (numB m 4 little ++ post))))) := by rw [hb, hf]; simp [authPre]
  have q1 : b = [f] ++ (prinB n i r ++ (numB c 4 little ++ (u8 t :: (numB m 4 little ++ post)))) := by rw [q0]; simp
  have q2 : b = ([f] ++ prinB n i r) ++ (numB c 4 little ++ (u8 t :: (numB m 4 little ++ post))) := by rw [q0]; simp
  have q3 : b = ([f] ++ prinB n i r ++ numB c 4 little) ++ (u8 t :: (numB m 4 little ++ post)) := by rw [q0]; simp
  have q4 : b = ([f] ++ prinB n i r ++ numB c 4 little ++ [u8 t]) ++ (numB m 4 little ++ post) := by rw [q0]; simp
  have r0 := rNum_one [] (prinB n i r ++ (numB c 4 little ++ (u8 t :: (numB m 4 little ++ post)))) f
  have r1 := rPrin_prin [f] (numB c 4 little ++ (u8 t :: (numB m 4 little ++ post))) n i r h1
  have r2 := rNum_num ([f] ++ prinB n i r) (u8 t :: (numB m 4 little ++ post)) c 4 little h2 (by omega)
  have r3 := rNum_one ([f] ++ prinB n i r ++ numB c 4 little) (numB m 4 little ++ post) (u8 t)
  have r4 := rNum_num ([f] ++ prinB n i r ++ numB c 4 little ++ [u8 t]) post m 4 little h6 (by omega)
  rw [← q0] at r0; rw [← q1] at r1; rw [← q2] at r2; rw [← q3] at r3; rw [← q4] at r4
  have l1 : (([f] : List UInt8).length : Int) = 0 + 1 := rfl
  have l2 : (([f] ++ prinB n i r).length : Int) = 0 + 1 + (prinB n i r).length := by simp; omega
  have l3 : (([f] ++ prinB n i r ++ numB c 4 little).length : Int) = 0 + 1 + (prinB n i r).length + (4 : Nat) := by simp [numB_length]; omega
  have l4 : (([f] ++ prinB n i r ++ numB c 4 little ++ [u8 t]).length : Int) = 0 + 1 + (prinB n i r).length + (4 : Nat) + 1 := by simp [numB_length]; omega
  have l0 : (([] : List UInt8).length : Int) = 0 := rfl
  rw [l0] at r0; rw [l1] at r1; rw [l2] at r2; rw [l3] at r3; rw [l4] at r4
  rw [← hb]
  unfold authRr
  simp only [r0, r1, r2, r3, r4, hu]
/-- What is decoded: an authenticator and an error. -/
theorem DecS.form {b : List UInt8} {little : Bool} {d : AV} (h : DecS b little d) : ∃ n i r c t m e, d = .tup [authA n i r c t m, .raw (.int .i64 e)] := by
  rcases h with ⟨n, i, r, c, t, m, _, rfl⟩ | ⟨_, rfl⟩
  · exact ⟨_, _, _, _, _, _, _, rfl⟩
  · exact ⟨_, _, _, _, _, _, _, rfl⟩
end Go.Proofs.YtghnigbihllnmaaGreat.Fn
