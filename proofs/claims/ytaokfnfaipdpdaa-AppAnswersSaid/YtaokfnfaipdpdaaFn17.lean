/- Authenticators are decoded. -/
import Derived.Test.YtaokfnfaipdpdaaHlC
import Derived.Test.YtaokfnfaipdpdaaSp1
import Derived.Test.YtaokfnfaipdpdaaTy
import Derived.Test.YtaokfnfaipdpdaaFn2
import Derived.Test.YtaokfnfaipdpdaaFn3
import Derived.Test.YtaokfnfaipdpdaaFn8
import Derived.Test.YtaokfnfaipdpdaaFn9
import Derived.Test.YtaokfnfaipdpdaaFn12
import Derived.Test.YtaokfnfaipdpdaaFn13
import Derived.Test.YtaokfnfaipdpdaaFn15
import Derived.Test.YtaokfnfaipdpdaaFn16
set_option linter.unusedVariables false
set_option linter.unusedSimpArgs false
namespace Go.Proofs.Ytaokfnfaipdpdaa.Fn
open Go Hl Sp Ty
set_option maxRecDepth 100000

theorem textR_small (b : List UInt8) (at_ : Int) : (textR b at_).1.size ≤ 39 := by
  unfold textR
  split
  · exact Nat.zero_le _
  · simp only
    have hle := indexByte_le ((b.drop at_.toNat).take 40) 0
    have hl : ((b.drop at_.toNat).take 40).length ≤ 40 := by simp; omega
    split
    · simp only [ByteArray.size, List.size_toArray, List.length_take]
      omega
    · split <;> exact Nat.zero_le _
theorem prinR_small (b : List UInt8) (at_ : Int) : (prinR b at_).1.1.size ≤ 39 ∧ (prinR b at_).1.2.1.size ≤ 39 ∧ (prinR b at_).1.2.2.size ≤ 39 := by
  have z : (⟨#[]⟩ : ByteArray).size ≤ 39 := Nat.zero_le _
  unfold prinR
  simp only
  split
  · exact ⟨z, z, z⟩
  · split
    · exact ⟨z, z, z⟩
    · split
      · exact ⟨z, z, z⟩
      · split
        · exact ⟨textR_small _ _, textR_small _ _, textR_small _ _⟩
        · exact ⟨z, z, z⟩
theorem cPrin_small (b : List UInt8) (s : Int × Bool) : (cPrin b s).1.1.size ≤ 39 ∧ (cPrin b s).1.2.1.size ≤ 39 ∧ (cPrin b s).1.2.2.size ≤ 39 := by
  have z : (⟨#[]⟩ : ByteArray).size ≤ 39 := Nat.zero_le _
  unfold cPrin nextP
  simp only
  split
  · exact ⟨z, z, z⟩
  · split
    · exact ⟨z, z, z⟩
    · exact prinR_small _ _
theorem authChk_ok {n i r : ByteArray} {c t m : Int} (h : authChk n i r c t m = 0) : AuthOk n i r c t m := by
  unfold authChk at h
  split at h
  · cases h
  · rename_i h1
    split at h
    · cases h
    · rename_i h2
      exact ⟨by simpa using h1, by omega, by omega, by omega, by omega, by omega, by omega⟩
/-- These bytes are those of an authenticator. -/
def AuthIs (b : List UInt8) (little : Bool) (n i r : ByteArray) (c t m : Int) : Prop := AuthOk n i r c t m ∧ authB n i r c t m little = b
/-- What Decode answers. -/
def DecS (b : List UInt8) (little : Bool) (d : AV) : Prop :=
  (∃ n i r c t m, AuthIs b little n i r c t m ∧ d = .tup [authA n i r c t m, .raw (.int .i64 0)]) ∨
  ((∀ n i r c t m, ¬ AuthIs b little n i r c t m) ∧ d = .tup [authA ⟨#[]⟩ ⟨#[]⟩ ⟨#[]⟩ 0 0 0, .raw (.int .i64 100)])
theorem AuthIs.read {b : List UInt8} {little : Bool} {n i r : ByteArray} {c t m : Int} (h : AuthIs b little n i r c t m) : authR b little = ((n, i, r), c, t, m, false) := by
  obtain ⟨h1, rfl⟩ := h
  exact authR_auth n i r c t m little h1 _
theorem AuthIs.inj {b : List UInt8} {little : Bool} {n i r n' i' r' : ByteArray} {c t m c' t' m' : Int} (h : AuthIs b little n i r c t m) (h' : AuthIs b little n' i' r' c' t' m') : n = n' ∧ i = i' ∧ r = r' ∧ c = c' ∧ t = t' ∧ m = m' := by
  have := h.read.symm.trans h'.read
  simp only [Prod.mk.injEq] at this
  obtain ⟨⟨a, b, c⟩, d, e, f, _⟩ := this
  exact ⟨a, b, c, d, e, f⟩
theorem DecS.unique {b : List UInt8} {little : Bool} {d d' : AV} (h : DecS b little d) (h' : DecS b little d') : d = d' := by
  rcases h with ⟨n, i, r, c, t, m, h1, rfl⟩ | ⟨h1, rfl⟩
  · rcases h' with ⟨n', i', r', c', t', m', h2, rfl⟩ | ⟨h2, rfl⟩
    · obtain ⟨rfl, rfl, rfl, rfl, rfl, rfl⟩ := h1.inj h2
      rfl
    · exact absurd h1 (h2 _ _ _ _ _ _)
  · rcases h' with ⟨n', i', r', c', t', m', h2, rfl⟩ | ⟨h2, rfl⟩
    · exact absurd h2 (h1 _ _ _ _ _ _)
    · rfl

set_option maxHeartbeats 4000000 in
theorem authDecode_pn (b : List UInt8) (little : Bool) (hn : b.length ≤ 140737488355000) :
    PN Try.prog 18 [.lst 1 (b.map byteA), .raw (.bool little)] (DecS b little) := by
  refine PN.of_ac ?_
  obtain ⟨x1, e1⟩ : ∃ x, cNum b 1 false (0, false) = x := ⟨_, rfl⟩
  obtain ⟨x2, e2⟩ : ∃ x, cPrin b x1.2 = x := ⟨_, rfl⟩
  obtain ⟨x3, e3⟩ : ∃ x, cNum b 4 little x2.2 = x := ⟨_, rfl⟩
  obtain ⟨x4, e4⟩ : ∃ x, cNum b 1 false x3.2 = x := ⟨_, rfl⟩
  obtain ⟨x5, e5⟩ : ∃ x, cNum b 4 little x4.2 = x := ⟨_, rfl⟩
  have o1 : 0 ≤ x1.2.1 ∧ x1.2.1 ≤ b.length := by rw [← e1]; exact cNum_ok (Int.le_refl _) (by simp)
  have o2 : 0 ≤ x2.2.1 ∧ x2.2.1 ≤ b.length := by rw [← e2]; exact cPrin_ok o1.1 o1.2
  have o3 : 0 ≤ x3.2.1 ∧ x3.2.1 ≤ b.length := by rw [← e3]; exact cNum_ok o2.1 o2.2
  have o4 : 0 ≤ x4.2.1 ∧ x4.2.1 ≤ b.length := by rw [← e4]; exact cNum_ok o3.1 o3.2
  have z2 := cPrin_small b x1.2
  rw [e2] at z2
  have hR : authR b little = (x2.1, x3.1, x4.1, x5.1, x5.2.2) := by simp only [authR, e1, e2, e3, e4, e5]
  obtain ⟨⟨p1, p2, p3⟩, s2⟩ := x2
  have hE := authEncode_pure p1 p2 p3 x3.1 x4.1 x5.1 little (by simp only at z2; omega) (by simp only at z2; omega) (by simp only at z2; omega)
  unfold authA authE at hE
  refine AC.of_body (M := []) Try.func18 rfl (by kernel_rfl) (Nat.le_of_ble_eq_true rfl) ?_; simp only [Try.results18, Try.ntmps18]
  simp (dsimp := false) only [go_sem, ↓reduceIte, Nat.reduceEqDiff, Nat.reduceLT, Nat.reduceAdd, Nat.reduceSub, Nat.reduceMul, Nat.reduceLeDiff, reduceCtorEq, Int.reduceNeg, Int.reduceToNat, Int.reduceLT, Int.reduceLE, Int.reduceGE, Int.reduceGT, Int.reduceEq]
  intro k1 hk1
  refine ACs.of (CNew_own b 0 little _ _ fun k hk => ?_)
  have n1 := none_ne hk
  have a1 : ∀ (own : Own) o, (own.set k1 o) k = own k := fun own o => Own.set_ne _ _ n1
  have a2 : ∀ (own : Own) o, (own.set k o) k1 = own k1 := fun own o => Own.set_ne _ _ (Ne.symm n1)
  simp (dsimp := false) only [go_sem, ↓reduceIte, Nat.reduceEqDiff, Nat.reduceLT, Nat.reduceAdd, Nat.reduceSub, Nat.reduceMul, Nat.reduceLeDiff, reduceCtorEq, Int.reduceNeg, Int.reduceToNat, Int.reduceLT, Int.reduceLE, Int.reduceGE, Int.reduceGT, Int.reduceEq]
  refine ACs.of (COctet_own b little (0, false) k _ _ (Own.set_same _ _ _) (Int.le_refl _) (by simp) hn ?_)
  simp (dsimp := false) only [go_sem, ↓reduceIte, Nat.reduceEqDiff, Nat.reduceLT, Nat.reduceAdd, Nat.reduceSub, Nat.reduceMul, Nat.reduceLeDiff, reduceCtorEq, Int.reduceNeg, Int.reduceToNat, Int.reduceLT, Int.reduceLE, Int.reduceGE, Int.reduceGT, Int.reduceEq, e1]
  refine ACs.of (CPrincipal_own b little x1.2 k _ _ (Own.set_same _ _ _) hn ?_)
  simp (dsimp := false) only [go_sem, ↓reduceIte, Nat.reduceEqDiff, Nat.reduceLT, Nat.reduceAdd, Nat.reduceSub, Nat.reduceMul, Nat.reduceLeDiff, reduceCtorEq, Int.reduceNeg, Int.reduceToNat, Int.reduceLT, Int.reduceLE, Int.reduceGE, Int.reduceGT, Int.reduceEq, e2, prinA]
  intro k2 hk2
  have n2 := none_ne hk2
  rw [Own.set_ne _ _ n2] at hk2
  have n3 := none_ne hk2
  have b1 : ∀ (own : Own) o, (own.set k2 o) k = own k := fun own o => Own.set_ne _ _ (Ne.symm n2)
  have b2 : ∀ (own : Own) o, (own.set k o) k2 = own k2 := fun own o => Own.set_ne _ _ n2
  have b3 : ∀ (own : Own) o, (own.set k2 o) k1 = own k1 := fun own o => Own.set_ne _ _ (Ne.symm n3)
  have b4 : ∀ (own : Own) o, (own.set k1 o) k2 = own k2 := fun own o => Own.set_ne _ _ n3
  refine ACs.of (CNumber_own b little s2 k _ _ ((b1 _ _).trans (Own.set_same _ _ _)) o2.1 o2.2 hn ?_)
  simp (dsimp := false) only [go_sem, ↓reduceIte, Nat.reduceEqDiff, Nat.reduceLT, Nat.reduceAdd, Nat.reduceSub, Nat.reduceMul, Nat.reduceLeDiff, reduceCtorEq, Int.reduceNeg, Int.reduceToNat, Int.reduceLT, Int.reduceLE, Int.reduceGE, Int.reduceGT, Int.reduceEq, e3, a1, a2, b1, b2, b3, b4]
  refine ACs.of (COctet_own b little x3.2 k _ _ (by simp only [a1, a2, b1, b2, b3, b4, Own.set_same]) o3.1 o3.2 hn ?_)
  simp (dsimp := false) only [go_sem, ↓reduceIte, Nat.reduceEqDiff, Nat.reduceLT, Nat.reduceAdd, Nat.reduceSub, Nat.reduceMul, Nat.reduceLeDiff, reduceCtorEq, Int.reduceNeg, Int.reduceToNat, Int.reduceLT, Int.reduceLE, Int.reduceGE, Int.reduceGT, Int.reduceEq, e4, a1, a2, b1, b2, b3, b4]
  refine ACs.of (CNumber_own b little x4.2 k _ _ (by simp only [a1, a2, b1, b2, b3, b4, Own.set_same]) o4.1 o4.2 hn ?_)
  simp (dsimp := false) only [go_sem, ↓reduceIte, Nat.reduceEqDiff, Nat.reduceLT, Nat.reduceAdd, Nat.reduceSub, Nat.reduceMul, Nat.reduceLeDiff, reduceCtorEq, Int.reduceNeg, Int.reduceToNat, Int.reduceLT, Int.reduceLE, Int.reduceGE, Int.reduceGT, Int.reduceEq, e5, a1, a2, b1, b2, b3, b4]
  refine ACs.pure hE ?_
  simp (dsimp := false) only [go_sem, ↓reduceIte, Nat.reduceEqDiff, Nat.reduceLT, Nat.reduceAdd, Nat.reduceSub, Nat.reduceMul, Nat.reduceLeDiff, reduceCtorEq, Int.reduceNeg, Int.reduceToNat, Int.reduceLT, Int.reduceLE, Int.reduceGE, Int.reduceGT, Int.reduceEq]
  refine ACs.of (CBad_own b little x5.2 k _ _ (by simp only [a1, a2, b1, b2, b3, b4, Own.set_same]) ?_)
  have key : ∀ n i r c t m, AuthIs b little n i r c t m → n = p1 ∧ i = p2 ∧ r = p3 ∧ c = x3.1 ∧ t = x4.1 ∧ m = x5.1 ∧ x5.2.2 = false := fun n i r c t m h => by
    have := h.read.symm.trans hR
    simp only [Prod.mk.injEq] at this
    obtain ⟨⟨a, b, c⟩, d, e, f, g⟩ := this
    exact ⟨a, b, c, d, e, f, g.symm⟩
  rcases Bool.eq_false_or_eq_true x5.2.2 with hb | hb
  · simp (dsimp := false) only [go_sem, ↓reduceIte, Nat.reduceEqDiff, Nat.reduceLT, Nat.reduceAdd, Nat.reduceSub, Nat.reduceMul, Nat.reduceLeDiff, reduceCtorEq, Int.reduceNeg, Int.reduceToNat, Int.reduceLT, Int.reduceLE, Int.reduceGE, Int.reduceGT, Int.reduceEq, hb, a1, a2, b1, b2, b3, b4]
    refine .inr ⟨fun n i r c t m h => ?_, rfl⟩
    rw [(key _ _ _ _ _ _ h).2.2.2.2.2.2] at hb
    cases hb
  by_cases hc : authChk p1 p2 p3 x3.1 x4.1 x5.1 = 0
  · simp (dsimp := false) only [go_sem, ↓reduceIte, Nat.reduceEqDiff, Nat.reduceLT, Nat.reduceAdd, Nat.reduceSub, Nat.reduceMul, Nat.reduceLeDiff, reduceCtorEq, Int.reduceNeg, Int.reduceToNat, Int.reduceLT, Int.reduceLE, Int.reduceGE, Int.reduceGT, Int.reduceEq, hb, hc, a1, a2, b1, b2, b3, b4]
    refine ACs.pure (Equal_pure _ b) ?_
    by_cases hq : authB p1 p2 p3 x3.1 x4.1 x5.1 little = b
    · simp (dsimp := false) only [go_sem, ↓reduceIte, Nat.reduceEqDiff, Nat.reduceLT, Nat.reduceAdd, Nat.reduceSub, Nat.reduceMul, Nat.reduceLeDiff, reduceCtorEq, Int.reduceNeg, Int.reduceToNat, Int.reduceLT, Int.reduceLE, Int.reduceGE, Int.reduceGT, Int.reduceEq, hq, a1, a2, b1, b2, b3, b4]
      exact .inl ⟨_, _, _, _, _, _, ⟨authChk_ok hc, hq⟩, rfl⟩
    · simp (dsimp := false) only [go_sem, ↓reduceIte, Nat.reduceEqDiff, Nat.reduceLT, Nat.reduceAdd, Nat.reduceSub, Nat.reduceMul, Nat.reduceLeDiff, reduceCtorEq, Int.reduceNeg, Int.reduceToNat, Int.reduceLT, Int.reduceLE, Int.reduceGE, Int.reduceGT, Int.reduceEq, hq, a1, a2, b1, b2, b3, b4]
      refine .inr ⟨fun n i r c t m h => ?_, rfl⟩
      obtain ⟨rfl, rfl, rfl, rfl, rfl, rfl, _⟩ := key _ _ _ _ _ _ h
      exact hq h.2
  · simp (dsimp := false) only [go_sem, ↓reduceIte, Nat.reduceEqDiff, Nat.reduceLT, Nat.reduceAdd, Nat.reduceSub, Nat.reduceMul, Nat.reduceLeDiff, reduceCtorEq, Int.reduceNeg, Int.reduceToNat, Int.reduceLT, Int.reduceLE, Int.reduceGE, Int.reduceGT, Int.reduceEq, hb, hc, a1, a2, b1, b2, b3, b4]
    refine .inr ⟨fun n i r c t m h => ?_, rfl⟩
    obtain ⟨rfl, rfl, rfl, rfl, rfl, rfl, _⟩ := key _ _ _ _ _ _ h
    exact hc h.1.chk
end Go.Proofs.Ytaokfnfaipdpdaa.Fn
