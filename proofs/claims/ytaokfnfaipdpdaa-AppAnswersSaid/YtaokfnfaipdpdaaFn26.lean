/- The reference decodes authenticators; the law on what is decoded. -/
import Derived.Test.YtaokfnfaipdpdaaHlC
import Derived.Test.YtaokfnfaipdpdaaSp1
import Derived.Test.YtaokfnfaipdpdaaTy
import Derived.Test.YtaokfnfaipdpdaaFn2
import Derived.Test.YtaokfnfaipdpdaaFn3
import Derived.Test.YtaokfnfaipdpdaaFn8
import Derived.Test.YtaokfnfaipdpdaaFn9
import Derived.Test.YtaokfnfaipdpdaaFn12
import Derived.Test.YtaokfnfaipdpdaaFn13
import Derived.Test.YtaokfnfaipdpdaaFn15
import Derived.Test.YtaokfnfaipdpdaaFn16
import Derived.Test.YtaokfnfaipdpdaaFn17
import Derived.Test.YtaokfnfaipdpdaaFn18
import Derived.Test.YtaokfnfaipdpdaaFn20
import Derived.Test.YtaokfnfaipdpdaaFn25
set_option linter.unusedVariables false
set_option linter.unusedSimpArgs false
namespace Go.Proofs.Ytaokfnfaipdpdaa.Fn
open Go Hl Sp Ty
set_option maxRecDepth 100000
theorem rNum_num (pre post : List UInt8) (n : Int) (size : Nat) (little : Bool) (h0 : 0 ≤ n) (h1 : n < 2 ^ (8 * size)) :
    rNum (pre ++ (numB n size little ++ post)) size little (pre.length, false) = (n, ((pre.length : Int) + size, false)) := by
  unfold rNum nextC
  simp only [readN_num pre post n size little h0 h1]
  simp
theorem rNum_one (pre post : List UInt8) (x : UInt8) : rNum (pre ++ (x :: post)) 1 false (pre.length, false) = ((x.toNat : Int), ((pre.length : Int) + 1, false)) := by
  unfold rNum nextC
  simp only [readN_one]
  simp
theorem rTxt_text (pre post : List UInt8) (s : ByteArray) (h : plainB s) : rTxt (pre ++ (textB s ++ post)) (pre.length, false) = (s, ((pre.length : Int) + s.size + 1, false)) := by
  unfold rTxt nextC
  simp only [textR_text pre post s h]
  simp
theorem rPrin_prin (pre post : List UInt8) (n i r : ByteArray) (h : validB n i r = true) : rPrin (pre ++ (prinB n i r ++ post)) (pre.length, false) = ((n, i, r), ((pre.length : Int) + (prinB n i r).length, false)) := by
  obtain ⟨p1, p2, p3⟩ := validB_plain h
  have e1 := rTxt_text pre (textB i ++ textB r ++ post) n p1
  have e2 := rTxt_text (pre ++ textB n) (textB r ++ post) i p2
  have e3 := rTxt_text (pre ++ textB n ++ textB i) post r p3
  have a0 : pre ++ (prinB n i r ++ post) = pre ++ (textB n ++ (textB i ++ textB r ++ post)) := by simp [prinB]
  have a1 : pre ++ (textB n ++ (textB i ++ textB r ++ post)) = (pre ++ textB n) ++ (textB i ++ (textB r ++ post)) := by simp
  have a2 : (pre ++ textB n) ++ (textB i ++ (textB r ++ post)) = (pre ++ textB n ++ textB i) ++ (textB r ++ post) := by simp
  rw [a0]
  have l1 : ((pre ++ textB n).length : Int) = pre.length + n.size + 1 := by simp [textB_length]; omega
  have l2 : ((pre ++ textB n ++ textB i).length : Int) = pre.length + n.size + 1 + i.size + 1 := by simp [textB_length]; omega
  rw [← a1, l1] at e2
  rw [← a2, ← a1, l2] at e3
  unfold rPrin
  simp only [e1, e2, e3, prinB_length]
  congr 2
  omega
/-- What a reader reads of an authenticator. -/
def authRr (b : List UInt8) (little : Bool) : (ByteArray × ByteArray × ByteArray) × Int × Int × Int × Bool :=
  let s1 := (rNum b 1 false (0, false)).2
  let p := rPrin b s1
  let c := rNum b 4 little p.2
  let t := rNum b 1 false c.2
  let m := rNum b 4 little t.2
  (p.1, c.1, t.1, m.1, m.2.2)
theorem authRr_auth (n i r : ByteArray) (c t m : Int) (little : Bool) (h : AuthOk n i r c t m) (post : List UInt8) : authRr (authPre n i r c t m little ++ post) little = ((n, i, r), c, t, m, false) := by
  obtain ⟨h1, h2, h3, h4, h5, h6, h7⟩ := h
  obtain ⟨b, hb⟩ : ∃ b, b = authPre n i r c t m little ++ post := ⟨_, rfl⟩
  obtain ⟨f, hf⟩ : ∃ f, f = u8 (flagZ little) := ⟨_, rfl⟩
  have hu : ((u8 t).toNat : Int) = t := by rw [u8_toNat]; omega
  have q0 : b = [] ++ (f :: (prinB n i r ++ (numB c 4 little ++ (u8 t :: (numB m 4 little ++ post))))) := by rw [hb, hf]; simp [authPre]
  have q1 : b = [f] ++ (prinB n i r ++ (numB c 4 little ++ (u8 t :: (numB m 4 little ++ post)))) := by rw [q0]; simp
  have q2 : b = ([f] ++ prinB n i r) ++ (numB c 4 little ++ (u8 t :: (numB m 4 little ++ post))) := by rw [q0]; simp
  have q3 : b = ([f] ++ prinB n i r ++ numB c 4 little) ++ (u8 t :: (numB m 4 little ++ post)) := by rw [q0]; simp
  have q4 : b = ([f] ++ prinB n i r ++ numB c 4 little ++ [u8 t]) ++ (numB m 4 little ++ post) := by rw [q0]; simp
  have r0 := rNum_one [] (prinB n i r ++ (numB c 4 little ++ (u8 t :: (numB m 4 little ++ post)))) f
  have r1 := rPrin_prin [f] (numB c 4 little ++ (u8 t :: (numB m 4 little ++ post))) n i r h1
  have r2 := rNum_num ([f] ++ prinB n i r) (u8 t :: (numB m 4 little ++ post)) c 4 little h2 (by omega)
  have r3 := rNum_one ([f] ++ prinB n i r ++ numB c 4 little) (numB m 4 little ++ post) (u8 t)
  have r4 := rNum_num ([f] ++ prinB n i r ++ numB c 4 little ++ [u8 t]) post m 4 little h6 (by omega)
  rw [← q0] at r0; rw [← q1] at r1; rw [← q2] at r2; rw [← q3] at r3; rw [← q4] at r4
  have l1 : (([f] : List UInt8).length : Int) = 0 + 1 := rfl
  have l2 : (([f] ++ prinB n i r).length : Int) = 0 + 1 + (prinB n i r).length := by simp; omega
  have l3 : (([f] ++ prinB n i r ++ numB c 4 little).length : Int) = 0 + 1 + (prinB n i r).length + (4 : Nat) := by simp [numB_length]; omega
  have l4 : (([f] ++ prinB n i r ++ numB c 4 little ++ [u8 t]).length : Int) = 0 + 1 + (prinB n i r).length + (4 : Nat) + 1 := by simp [numB_length]; omega
  have l0 : (([] : List UInt8).length : Int) = 0 := rfl
  rw [l0] at r0; rw [l1] at r1; rw [l2] at r2; rw [l3] at r3; rw [l4] at r4
  rw [← hb]
  unfold authRr
  simp only [r0, r1, r2, r3, r4, hu]
set_option maxHeartbeats 4000000 in
theorem rauthDecode_pn (b : List UInt8) (little : Bool) (hn : b.length ≤ 140737488355000) :
    PN Try.prog 19 [.lst 1 (b.map byteA), .raw (.bool little)] (DecS b little) := by
  refine PN.of_ac ?_
  obtain ⟨x1, e1⟩ : ∃ x, rNum b 1 false (0, false) = x := ⟨_, rfl⟩
  obtain ⟨x2, e2⟩ : ∃ x, rPrin b x1.2 = x := ⟨_, rfl⟩
  obtain ⟨x3, e3⟩ : ∃ x, rNum b 4 little x2.2 = x := ⟨_, rfl⟩
  obtain ⟨x4, e4⟩ : ∃ x, rNum b 1 false x3.2 = x := ⟨_, rfl⟩
  obtain ⟨x5, e5⟩ : ∃ x, rNum b 4 little x4.2 = x := ⟨_, rfl⟩
  have o1 : 0 ≤ x1.2.1 ∧ x1.2.1 ≤ b.length := by rw [← e1]; exact rNum_ok (Int.le_refl _) (by simp)
  have o2 : 0 ≤ x2.2.1 ∧ x2.2.1 ≤ b.length := by rw [← e2]; exact rPrin_ok o1.1 o1.2
  have o3 : 0 ≤ x3.2.1 ∧ x3.2.1 ≤ b.length := by rw [← e3]; exact rNum_ok o2.1 o2.2
  have o4 : 0 ≤ x4.2.1 ∧ x4.2.1 ≤ b.length := by rw [← e4]; exact rNum_ok o3.1 o3.2
  have z2 := rPrin_small b x1.2
  rw [e2] at z2
  have hR : authRr b little = (x2.1, x3.1, x4.1, x5.1, x5.2.2) := by simp only [authRr, e1, e2, e3, e4, e5]
  obtain ⟨⟨p1, p2, p3⟩, s2⟩ := x2
  have hE := rauthEncode_pure p1 p2 p3 x3.1 x4.1 x5.1 little (by simp only at z2; omega) (by simp only at z2; omega) (by simp only at z2; omega)
  unfold authA authE at hE
  have key : ∀ n i r c t m, AuthIs b little n i r c t m → n = p1 ∧ i = p2 ∧ r = p3 ∧ c = x3.1 ∧ t = x4.1 ∧ m = x5.1 ∧ x5.2.2 = false := fun n i r c t m h => by
    obtain ⟨h1, h2⟩ := h
    have := authRr_auth n i r c t m little h1 (List.replicate (padN (authPre n i r c t m little).length) 0)
    rw [show authPre n i r c t m little ++ List.replicate (padN (authPre n i r c t m little).length) 0 = b from h2] at this
    have := this.symm.trans hR
    simp only [Prod.mk.injEq] at this
    obtain ⟨⟨a, b, c⟩, d, e, f, g⟩ := this
    exact ⟨a, b, c, d, e, f, g.symm⟩
  refine AC.of_body (M := [13]) Try.func19 rfl (by kernel_rfl) (Nat.le_of_ble_eq_true rfl) ?_; simp only [Try.results19, Try.ntmps19]
  simp (dsimp := false) only [go_sem, ↓reduceIte, Nat.reduceEqDiff, Nat.reduceLT, Nat.reduceAdd, Nat.reduceSub, Nat.reduceMul, Nat.reduceLeDiff, reduceCtorEq, Int.reduceNeg, Int.reduceToNat, Int.reduceLT, Int.reduceLE, Int.reduceGE, Int.reduceGT, Int.reduceEq]
  intro k1 hk1 k hk
  have n1 := none_ne hk
  have a1 : ∀ (own : Own) o, (own.set k1 o) k = own k := fun own o => Own.set_ne _ _ n1
  have a2 : ∀ (own : Own) o, (own.set k o) k1 = own k1 := fun own o => Own.set_ne _ _ (Ne.symm n1)
  refine ACs.of (ROctet_own b little (0, false) k _ _ (Own.set_same _ _ _) (Int.le_refl _) (by simp) hn ?_)
  simp (dsimp := false) only [go_sem, ↓reduceIte, Nat.reduceEqDiff, Nat.reduceLT, Nat.reduceAdd, Nat.reduceSub, Nat.reduceMul, Nat.reduceLeDiff, reduceCtorEq, Int.reduceNeg, Int.reduceToNat, Int.reduceLT, Int.reduceLE, Int.reduceGE, Int.reduceGT, Int.reduceEq, e1]
  refine ACs.of (RPrincipal_own b little x1.2 k _ _ (Own.set_same _ _ _) hn ?_)
  simp (dsimp := false) only [go_sem, ↓reduceIte, Nat.reduceEqDiff, Nat.reduceLT, Nat.reduceAdd, Nat.reduceSub, Nat.reduceMul, Nat.reduceLeDiff, reduceCtorEq, Int.reduceNeg, Int.reduceToNat, Int.reduceLT, Int.reduceLE, Int.reduceGE, Int.reduceGT, Int.reduceEq, e2, prinA]
  intro k2 hk2
  have n2 := none_ne hk2
  rw [Own.set_ne _ _ n2] at hk2
  have n3 := none_ne hk2
  have b1 : ∀ (own : Own) o, (own.set k2 o) k = own k := fun own o => Own.set_ne _ _ (Ne.symm n2)
  have b2 : ∀ (own : Own) o, (own.set k o) k2 = own k2 := fun own o => Own.set_ne _ _ n2
  have b3 : ∀ (own : Own) o, (own.set k2 o) k1 = own k1 := fun own o => Own.set_ne _ _ (Ne.symm n3)
  have b4 : ∀ (own : Own) o, (own.set k1 o) k2 = own k2 := fun own o => Own.set_ne _ _ n3
  refine ACs.of (RNumber_own b little s2 k _ _ ((b1 _ _).trans (Own.set_same _ _ _)) o2.1 o2.2 hn ?_)
  simp (dsimp := false) only [go_sem, ↓reduceIte, Nat.reduceEqDiff, Nat.reduceLT, Nat.reduceAdd, Nat.reduceSub, Nat.reduceMul, Nat.reduceLeDiff, reduceCtorEq, Int.reduceNeg, Int.reduceToNat, Int.reduceLT, Int.reduceLE, Int.reduceGE, Int.reduceGT, Int.reduceEq, e3, a1, a2, b1, b2, b3, b4]
  refine ACs.of (ROctet_own b little x3.2 k _ _ (by simp only [a1, a2, b1, b2, b3, b4, Own.set_same]) o3.1 o3.2 hn ?_)
  simp (dsimp := false) only [go_sem, ↓reduceIte, Nat.reduceEqDiff, Nat.reduceLT, Nat.reduceAdd, Nat.reduceSub, Nat.reduceMul, Nat.reduceLeDiff, reduceCtorEq, Int.reduceNeg, Int.reduceToNat, Int.reduceLT, Int.reduceLE, Int.reduceGE, Int.reduceGT, Int.reduceEq, e4, a1, a2, b1, b2, b3, b4]
  refine ACs.of (RNumber_own b little x4.2 k _ _ (by simp only [a1, a2, b1, b2, b3, b4, Own.set_same]) o4.1 o4.2 hn ?_)
  simp (dsimp := false) only [go_sem, ↓reduceIte, Nat.reduceEqDiff, Nat.reduceLT, Nat.reduceAdd, Nat.reduceSub, Nat.reduceMul, Nat.reduceLeDiff, reduceCtorEq, Int.reduceNeg, Int.reduceToNat, Int.reduceLT, Int.reduceLE, Int.reduceGE, Int.reduceGT, Int.reduceEq, e5, a1, a2, b1, b2, b3, b4]
  refine ACs.pure hE ?_
  rcases Bool.eq_false_or_eq_true x5.2.2 with hb | hb
  · simp (dsimp := false) only [go_sem, ↓reduceIte, Nat.reduceEqDiff, Nat.reduceLT, Nat.reduceAdd, Nat.reduceSub, Nat.reduceMul, Nat.reduceLeDiff, reduceCtorEq, Int.reduceNeg, Int.reduceToNat, Int.reduceLT, Int.reduceLE, Int.reduceGE, Int.reduceGT, Int.reduceEq, hb, a1, a2, b1, b2, b3, b4, rdO]
    refine .inr ⟨fun n i r c t m h => ?_, rfl⟩
    rw [(key _ _ _ _ _ _ h).2.2.2.2.2.2] at hb
    cases hb
  by_cases hc : authChk p1 p2 p3 x3.1 x4.1 x5.1 = 0
  · by_cases hq : authB p1 p2 p3 x3.1 x4.1 x5.1 little = b
    · simp (dsimp := false) only [go_sem, ↓reduceIte, Nat.reduceEqDiff, Nat.reduceLT, Nat.reduceAdd, Nat.reduceSub, Nat.reduceMul, Nat.reduceLeDiff, reduceCtorEq, Int.reduceNeg, Int.reduceToNat, Int.reduceLT, Int.reduceLE, Int.reduceGE, Int.reduceGT, Int.reduceEq, hb, hc, hq, bytes_eq, a1, a2, b1, b2, b3, b4, rdO]
      exact .inl ⟨_, _, _, _, _, _, ⟨authChk_ok hc, hq⟩, rfl⟩
    · simp (dsimp := false) only [go_sem, ↓reduceIte, Nat.reduceEqDiff, Nat.reduceLT, Nat.reduceAdd, Nat.reduceSub, Nat.reduceMul, Nat.reduceLeDiff, reduceCtorEq, Int.reduceNeg, Int.reduceToNat, Int.reduceLT, Int.reduceLE, Int.reduceGE, Int.reduceGT, Int.reduceEq, hb, hc, hq, bytes_eq, a1, a2, b1, b2, b3, b4, rdO]
      refine .inr ⟨fun n i r c t m h => ?_, rfl⟩
      obtain ⟨rfl, rfl, rfl, rfl, rfl, rfl, _⟩ := key _ _ _ _ _ _ h
      exact hq h.2
  · simp (dsimp := false) only [go_sem, ↓reduceIte, Nat.reduceEqDiff, Nat.reduceLT, Nat.reduceAdd, Nat.reduceSub, Nat.reduceMul, Nat.reduceLeDiff, reduceCtorEq, Int.reduceNeg, Int.reduceToNat, Int.reduceLT, Int.reduceLE, Int.reduceGE, Int.reduceGT, Int.reduceEq, hb, hc, a1, a2, b1, b2, b3, b4, rdO]
    refine .inr ⟨fun n i r c t m h => ?_, rfl⟩
    obtain ⟨rfl, rfl, rfl, rfl, rfl, rfl, _⟩ := key _ _ _ _ _ _ h
    exact hc h.1.chk
/-- What is decoded: an authenticator and an error. -/
theorem DecS.form {b : List UInt8} {little : Bool} {d : AV} (h : DecS b little d) : ∃ n i r c t m e, d = .tup [authA n i r c t m, .raw (.int .i64 e)] := by
  rcases h with ⟨n, i, r, c, t, m, _, rfl⟩ | ⟨_, rfl⟩
  · exact ⟨_, _, _, _, _, _, _, rfl⟩
  · exact ⟨_, _, _, _, _, _, _, rfl⟩
set_option maxHeartbeats 4000000 in
theorem AuthenticatorDecodes_pc (b bs : List UInt8) (little other : Bool) (how : Int) (hh : 0 ≤ how ∧ how ≤ 65535) :
    PC Try.prog 3 [.lst 1 (b.map byteA), .lst 1 (bs.map byteA), .raw (.bool little), .raw (.bool other), .raw (.int .u16 how)] (.raw (.bool true)) := by
  refine PC.of_ac ?_
  refine AC.of_body (M := []) Try.func3 rfl (by kernel_rfl) (Nat.le_of_ble_eq_true rfl) ?_; simp only [Try.results3, Try.ntmps3]
  simp (dsimp := false) only [go_sem, ↓reduceIte, Nat.reduceEqDiff, Nat.reduceLT, Nat.reduceAdd, Nat.reduceSub, Nat.reduceMul, Nat.reduceLeDiff, reduceCtorEq, Int.reduceNeg, Int.reduceToNat, Int.reduceLT, Int.reduceLE, Int.reduceGE, Int.reduceGT, Int.reduceEq]
  refine ACs.pure awake7_pure ?_
  by_cases h1 : (b.length : Int) > 300
  · simp (dsimp := false) only [go_sem, ↓reduceIte, Nat.reduceEqDiff, Nat.reduceLT, Nat.reduceAdd, Nat.reduceSub, Nat.reduceMul, Nat.reduceLeDiff, reduceCtorEq, Int.reduceNeg, Int.reduceToNat, Int.reduceLT, Int.reduceLE, Int.reduceGE, Int.reduceGT, Int.reduceEq, h1]
  by_cases h2 : (bs.length : Int) > 40
  · simp (dsimp := false) only [go_sem, ↓reduceIte, Nat.reduceEqDiff, Nat.reduceLT, Nat.reduceAdd, Nat.reduceSub, Nat.reduceMul, Nat.reduceLeDiff, reduceCtorEq, Int.reduceNeg, Int.reduceToNat, Int.reduceLT, Int.reduceLE, Int.reduceGE, Int.reduceGT, Int.reduceEq, h1, h2]
  simp (dsimp := false) only [go_sem, ↓reduceIte, Nat.reduceEqDiff, Nat.reduceLT, Nat.reduceAdd, Nat.reduceSub, Nat.reduceMul, Nat.reduceLeDiff, reduceCtorEq, Int.reduceNeg, Int.reduceToNat, Int.reduceLT, Int.reduceLE, Int.reduceGE, Int.reduceGT, Int.reduceEq, h1, h2]
  refine ACs.pn (Auth_pn bs (by omega)) ?_
  rintro _ ⟨n, i, r, c, t, m, rfl, hok⟩
  have hz := validB_size hok.1
  have hE := rauthEncode_pure n i r c t m other (by omega) (by omega) (by omega)
  have hl := authB_length n i r c t m other
  rw [authE, hok.chk, if_pos rfl] at hE
  obtain ⟨cb, hcb⟩ : ∃ cb, authB n i r c t m other = cb := ⟨_, rfl⟩
  rw [hcb] at hE hl
  unfold authA at hE ⊢
  simp (dsimp := false) only [go_sem, ↓reduceIte, Nat.reduceEqDiff, Nat.reduceLT, Nat.reduceAdd, Nat.reduceSub, Nat.reduceMul, Nat.reduceLeDiff, reduceCtorEq, Int.reduceNeg, Int.reduceToNat, Int.reduceLT, Int.reduceLE, Int.reduceGE, Int.reduceGT, Int.reduceEq]
  refine ACs.pure hE ?_
  simp (dsimp := false) only [go_sem, ↓reduceIte, Nat.reduceEqDiff, Nat.reduceLT, Nat.reduceAdd, Nat.reduceSub, Nat.reduceMul, Nat.reduceLeDiff, reduceCtorEq, Int.reduceNeg, Int.reduceToNat, Int.reduceLT, Int.reduceLE, Int.reduceGE, Int.reduceGT, Int.reduceEq]
  refine AW.loopJ (M := []) (X := Nat) (fun j => ⟨69, tmL [(0, .lst 1 (b.map byteA)), (2, .raw (.bool little)), (4, .raw (.int .u16 how)), (11, .lst 1 (cb.map byteA)), (13, .raw (.int .i64 j))], noOwn⟩)
    (fun j => j ≤ 3) (fun j => 3 - j) 0 (by decide) ?_ ?_
  · (refine Ghost.of ?_ (fun _ _ h => by cases h); (repeat' (first | exact all_nil | refine all_cons ?_ ?_)) <;> (first | (simp (dsimp := false) only [go_sem, ↓reduceIte, Nat.reduceEqDiff, Nat.reduceLT, Nat.reduceAdd, Nat.reduceSub, Nat.reduceMul, Nat.reduceLeDiff, reduceCtorEq, Int.reduceNeg, Int.reduceToNat, Int.reduceLT, Int.reduceLE, Int.reduceGE, Int.reduceGT, Int.reduceEq]; done) | (simp (dsimp := false) only [go_sem, ↓reduceIte, Nat.reduceEqDiff, Nat.reduceLT, Nat.reduceAdd, Nat.reduceSub, Nat.reduceMul, Nat.reduceLeDiff, reduceCtorEq, Int.reduceNeg, Int.reduceToNat, Int.reduceLT, Int.reduceLE, Int.reduceGE, Int.reduceGT, Int.reduceEq]; rfl)))
  intro j hj
  by_cases hj3 : (j : Int) < 3
  · have e1 : IntKind.i64.wrap ((j : Int) + 1) = ((j + 1 : Nat) : Int) := by rw [wrap_i64 (by omega) (by omega)]; omega
    simp (dsimp := false) only [go_sem, ↓reduceIte, Nat.reduceEqDiff, Nat.reduceLT, Nat.reduceAdd, Nat.reduceSub, Nat.reduceMul, Nat.reduceLeDiff, reduceCtorEq, Int.reduceNeg, Int.reduceToNat, Int.reduceLT, Int.reduceLE, Int.reduceGE, Int.reduceGT, Int.reduceEq, hj3]
    refine ACs.pn (Spoil_pn cb how (by omega) hh.1 hh.2) ?_
    rintro _ ⟨x, rfl, hxl⟩
    obtain ⟨y, hy, hyl⟩ : ∃ y : List UInt8, [AV.lst 1 (b.map byteA), .lst 1 (cb.map byteA), .lst 1 (x.map byteA)].getD j .any = .lst 1 (y.map byteA) ∧ y.length ≤ 100000 := by
      match j, (show j < 3 by omega) with
      | 0, _ => exact ⟨b, rfl, by omega⟩
      | 1, _ => exact ⟨cb, rfl, by omega⟩
      | 2, _ => exact ⟨x, rfl, by omega⟩
    simp (dsimp := false) only [go_sem, ↓reduceIte, Nat.reduceEqDiff, Nat.reduceLT, Nat.reduceAdd, Nat.reduceSub, Nat.reduceMul, Nat.reduceLeDiff, reduceCtorEq, Int.reduceNeg, Int.reduceToNat, Int.reduceLT, Int.reduceLE, Int.reduceGE, Int.reduceGT, Int.reduceEq, hy]
    refine ⟨by omega, ?_⟩
    refine ACs.pn (authDecode_pn y little (by omega)) ?_
    intro d hd
    obtain ⟨n1, i1, r1, c1, t1, m1, e, rfl⟩ := hd.form
    unfold authA
    simp (dsimp := false) only [go_sem, ↓reduceIte, Nat.reduceEqDiff, Nat.reduceLT, Nat.reduceAdd, Nat.reduceSub, Nat.reduceMul, Nat.reduceLeDiff, reduceCtorEq, Int.reduceNeg, Int.reduceToNat, Int.reduceLT, Int.reduceLE, Int.reduceGE, Int.reduceGT, Int.reduceEq]
    intro k1 hk1
    refine ACs.pn (rauthDecode_pn y little (by omega)) ?_
    intro d' hd'
    obtain rfl := hd'.unique hd
    unfold authA
    simp (dsimp := false) only [go_sem, ↓reduceIte, Nat.reduceEqDiff, Nat.reduceLT, Nat.reduceAdd, Nat.reduceSub, Nat.reduceMul, Nat.reduceLeDiff, reduceCtorEq, Int.reduceNeg, Int.reduceToNat, Int.reduceLT, Int.reduceLE, Int.reduceGE, Int.reduceGT, Int.reduceEq]
    intro k2 hk2
    have q := none_ne hk2
    have a1 : ∀ (own : Own) o, (own.set k2 o) k1 = own k1 := fun own o => Own.set_ne _ _ (Ne.symm q)
    have a2 : ∀ (own : Own) o, (own.set k1 o) k2 = own k2 := fun own o => Own.set_ne _ _ q
    simp (dsimp := false) only [go_sem, ↓reduceIte, Nat.reduceEqDiff, Nat.reduceLT, Nat.reduceAdd, Nat.reduceSub, Nat.reduceMul, Nat.reduceLeDiff, reduceCtorEq, Int.reduceNeg, Int.reduceToNat, Int.reduceLT, Int.reduceLE, Int.reduceGE, Int.reduceGT, Int.reduceEq, a1, a2, e1]
    refine ⟨j + 1, by omega, ?_, by omega⟩
    (refine Ghost.of ?_ (fun _ _ h => by cases h); (repeat' (first | exact all_nil | refine all_cons ?_ ?_)) <;> (first | (simp (dsimp := false) only [go_sem, ↓reduceIte, Nat.reduceEqDiff, Nat.reduceLT, Nat.reduceAdd, Nat.reduceSub, Nat.reduceMul, Nat.reduceLeDiff, reduceCtorEq, Int.reduceNeg, Int.reduceToNat, Int.reduceLT, Int.reduceLE, Int.reduceGE, Int.reduceGT, Int.reduceEq]; done) | (simp (dsimp := false) only [go_sem, ↓reduceIte, Nat.reduceEqDiff, Nat.reduceLT, Nat.reduceAdd, Nat.reduceSub, Nat.reduceMul, Nat.reduceLeDiff, reduceCtorEq, Int.reduceNeg, Int.reduceToNat, Int.reduceLT, Int.reduceLE, Int.reduceGE, Int.reduceGT, Int.reduceEq]; rfl)))
  · simp (dsimp := false) only [go_sem, ↓reduceIte, Nat.reduceEqDiff, Nat.reduceLT, Nat.reduceAdd, Nat.reduceSub, Nat.reduceMul, Nat.reduceLeDiff, reduceCtorEq, Int.reduceNeg, Int.reduceToNat, Int.reduceLT, Int.reduceLE, Int.reduceGE, Int.reduceGT, Int.reduceEq, hj3]
end Go.Proofs.Ytaokfnfaipdpdaa.Fn
