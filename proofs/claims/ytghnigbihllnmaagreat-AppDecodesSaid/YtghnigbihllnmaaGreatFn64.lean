/- The law on what is decoded of the messages to services. -/
import Derived.Test.YtghnigbihllnmaaGreatFn62
import Derived.Test.YtghnigbihllnmaaGreatFn20
set_option linter.unusedVariables false
set_option linter.unusedSimpArgs false
namespace Go.Proofs.YtghnigbihllnmaaGreat.Fn
open Go Hl Sp Ty
set_option maxRecDepth 100000
theorem apDec.form {b : List UInt8} {d : AV} (h : apDec b d) : ∃ (lt : Bool) (mu : Bool) (kv : Int) (r : ByteArray) (tk : List UInt8) (au : List UInt8) (e : Int), d = .tup [apA lt mu kv r tk au, .raw (.int .i64 e)] := by
  rcases h with ⟨lt, mu, kv, r, tk, au, h1, rfl⟩ | ⟨h1, rfl⟩
  · exact ⟨_, _, _, _, _, _, _, rfl⟩
  · exact ⟨false, false, 0, ⟨#[]⟩, [], [], _, rfl⟩
theorem tgsDec.form {b : List UInt8} {d : AV} (h : tgsDec b d) : ∃ (lt : Bool) (mu : Bool) (kv : Int) (r : ByteArray) (tk : List UInt8) (au : List UInt8) (tm : Int) (li : Int) (s : ByteArray) (t : ByteArray) (e : Int), d = .tup [tgsA lt mu kv r tk au tm li s t, .raw (.int .i64 e)] := by
  rcases h with ⟨lt, mu, kv, r, tk, au, tm, li, s, t, h1, rfl⟩ | ⟨h1, rfl⟩
  · exact ⟨_, _, _, _, _, _, _, _, _, _, _, rfl⟩
  · exact ⟨false, false, 0, ⟨#[]⟩, [], [], 0, 0, ⟨#[]⟩, ⟨#[]⟩, _, rfl⟩
theorem mutDec.form {b : List UInt8} {lt : Bool} {d : AV} (h : mutDec b lt d) : ∃ (lt0 : Bool) (ck : Int) (ti : Int) (tm : Int) (e : Int), d = .tup [mutA lt0 ck ti tm, .raw (.int .i64 e)] := by
  rcases h with ⟨ck, ti, tm, h1, rfl⟩ | ⟨h1, rfl⟩
  · exact ⟨lt, _, _, _, _, rfl⟩
  · exact ⟨false, 0, 0, 0, _, rfl⟩
theorem ansDec.form {b : List UInt8} {d : AV} (h : ansDec b d) : ∃ (x : List UInt8) (lt : Bool) (e : Int), d = .tup [.lst 1 (x.map byteA), .raw (.bool lt), .raw (.int .i64 e)] := by
  rcases h with ⟨lt, x, h1, rfl⟩ | ⟨h1, rfl⟩
  · exact ⟨_, _, _, rfl⟩
  · exact ⟨[], _, _, rfl⟩
set_option maxHeartbeats 32000000 in
theorem AppDecodes_pc (raw : List UInt8) (xl xm : Bool) (xk xr : Int) (xt xa bs : List UInt8) (a kind : Int) (other : Bool) (how : Int) (hxk : 0 ≤ xk ∧ xk ≤ 255) (hxr : 0 ≤ xr ∧ xr ≤ 255) (ha : 0 ≤ a ∧ a ≤ 4294967295) (hk : 0 ≤ kind ∧ kind ≤ 255) (hh : 0 ≤ how ∧ how ≤ 65535) :
    PC Tryz.prog 4 [.lst 1 (raw.map byteA), .st [.raw (.bool xl), .raw (.bool xm), .raw (.int .u8 xk), .raw (.int .u8 xr), .lst 1 (xt.map byteA), .lst 1 (xa.map byteA)], .lst 1 (bs.map byteA), .raw (.int .u32 a), .raw (.int .u8 kind), .raw (.bool other), .raw (.int .u16 how)] (.raw (.bool true)) := by
  refine PC.of_ac ?_
  have wa : IntKind.i64.wrap a = a := wrap_i64 (by omega) (by omega)
  have hrs : (rlm xr).size ≤ 39 := rlm_size xr
  by_cases h1 : (raw.length : Int) > 600
  · refine AC.of_body (M := []) Tryz.func4 rfl (by kernel_rfl) (Nat.le_of_ble_eq_true rfl) ?_; simp only [Tryz.results4, Tryz.ntmps4]
    simp (dsimp := false) only [go_sem, ↓reduceIte, Nat.reduceEqDiff, Nat.reduceLT, Nat.reduceAdd, Nat.reduceSub, Nat.reduceMul, Nat.reduceLeDiff, reduceCtorEq, Int.reduceNeg, Int.reduceToNat, Int.reduceLT, Int.reduceLE, Int.reduceGE, Int.reduceGT, Int.reduceEq]
    refine ACs.pure awake10_pure ?_
    simp (dsimp := false) only [go_sem, ↓reduceIte, Nat.reduceEqDiff, Nat.reduceLT, Nat.reduceAdd, Nat.reduceSub, Nat.reduceMul, Nat.reduceLeDiff, reduceCtorEq, Int.reduceNeg, Int.reduceToNat, Int.reduceLT, Int.reduceLE, Int.reduceGE, Int.reduceGT, Int.reduceEq, h1]
  by_cases h2 : (bs.length : Int) > 40
  · refine AC.of_body (M := []) Tryz.func4 rfl (by kernel_rfl) (Nat.le_of_ble_eq_true rfl) ?_; simp only [Tryz.results4, Tryz.ntmps4]
    simp (dsimp := false) only [go_sem, ↓reduceIte, Nat.reduceEqDiff, Nat.reduceLT, Nat.reduceAdd, Nat.reduceSub, Nat.reduceMul, Nat.reduceLeDiff, reduceCtorEq, Int.reduceNeg, Int.reduceToNat, Int.reduceLT, Int.reduceLE, Int.reduceGE, Int.reduceGT, Int.reduceEq]
    refine ACs.pure awake10_pure ?_
    simp (dsimp := false) only [go_sem, ↓reduceIte, Nat.reduceEqDiff, Nat.reduceLT, Nat.reduceAdd, Nat.reduceSub, Nat.reduceMul, Nat.reduceLeDiff, reduceCtorEq, Int.reduceNeg, Int.reduceToNat, Int.reduceLT, Int.reduceLE, Int.reduceGE, Int.reduceGT, Int.reduceEq, h1, h2]
  obtain ⟨td_, hT, lt', n', i', r', ad', k', li', is', s', t', htd, hok⟩ := Ticket_det bs (by omega)
  have hzt := hok.size
  subst htd
  unfold ticketA at hT
  obtain ⟨ad_, hA, tk', au', hd, hz⟩ := apReq_det xl xm xk xr xt xa hxk hxr
  subst hd
  unfold apA at hA
  refine AC.of_body (M := []) Tryz.func4 rfl (by kernel_rfl) (Nat.le_of_ble_eq_true rfl) ?_; simp only [Tryz.results4, Tryz.ntmps4]
  simp (dsimp := false) only [go_sem, ↓reduceIte, Nat.reduceEqDiff, Nat.reduceLT, Nat.reduceAdd, Nat.reduceSub, Nat.reduceMul, Nat.reduceLeDiff, reduceCtorEq, Int.reduceNeg, Int.reduceToNat, Int.reduceLT, Int.reduceLE, Int.reduceGE, Int.reduceGT, Int.reduceEq]
  refine ACs.pure awake10_pure ?_
  simp (dsimp := false) only [go_sem, ↓reduceIte, Nat.reduceEqDiff, Nat.reduceLT, Nat.reduceAdd, Nat.reduceSub, Nat.reduceMul, Nat.reduceLeDiff, reduceCtorEq, Int.reduceNeg, Int.reduceToNat, Int.reduceLT, Int.reduceLE, Int.reduceGE, Int.reduceGT, Int.reduceEq, h1, h2]
  refine ACs.pure hT ?_
  simp (dsimp := false) only [go_sem, ↓reduceIte, Nat.reduceEqDiff, Nat.reduceLT, Nat.reduceAdd, Nat.reduceSub, Nat.reduceMul, Nat.reduceLeDiff, reduceCtorEq, Int.reduceNeg, Int.reduceToNat, Int.reduceLT, Int.reduceLE, Int.reduceGE, Int.reduceGT, Int.reduceEq]
  intro k0 hk0
  refine ACs.pure hA ?_
  simp (dsimp := false) only [go_sem, ↓reduceIte, Nat.reduceEqDiff, Nat.reduceLT, Nat.reduceAdd, Nat.reduceSub, Nat.reduceMul, Nat.reduceLeDiff, reduceCtorEq, Int.reduceNeg, Int.reduceToNat, Int.reduceLT, Int.reduceLE, Int.reduceGE, Int.reduceGT, Int.reduceEq]
  intro km hkm
  have q0 := none_ne hkm
  have f0 : ∀ (own : Own) o, (own.set km o) k0 = own k0 := fun own o => Own.set_ne _ _ (Ne.symm q0)
  have f0' : ∀ (own : Own) o, (own.set k0 o) km = own km := fun own o => Own.set_ne _ _ q0
  rcases tmod4 hk.1 with h4 | h4 | h4 | h4
  · have hE := rapEncode_pure xl xm xk (rlm xr) tk' au' (by omega) (by omega) (by omega)
    have hl : (if apChk xl xm xk (rlm xr) tk' au' = 0 then apB xl xm xk (rlm xr) tk' au' else []).length ≤ 2000 := by
      have := apB_length xl xm xk (rlm xr) tk' au'
      split
      · omega
      · exact Nat.zero_le _
    unfold apA apE at hE
    obtain ⟨M, hM⟩ : ∃ M, (if apChk xl xm xk (rlm xr) tk' au' = 0 then apB xl xm xk (rlm xr) tk' au' else []) = M := ⟨_, rfl⟩
    rw [hM] at hE hl
    obtain ⟨E, hEE⟩ : ∃ E, apChk xl xm xk (rlm xr) tk' au' = E := ⟨_, rfl⟩
    rw [hEE] at hE
    simp (dsimp := false) only [go_sem, ↓reduceIte, Nat.reduceEqDiff, Nat.reduceLT, Nat.reduceAdd, Nat.reduceSub, Nat.reduceMul, Nat.reduceLeDiff, reduceCtorEq, Int.reduceNeg, Int.reduceToNat, Int.reduceLT, Int.reduceLE, Int.reduceGE, Int.reduceGT, Int.reduceEq, h4, f0, f0', wa]
    refine ACs.pure hE ?_
    simp (dsimp := false) only [go_sem, ↓reduceIte, Nat.reduceEqDiff, Nat.reduceLT, Nat.reduceAdd, Nat.reduceSub, Nat.reduceMul, Nat.reduceLeDiff, reduceCtorEq, Int.reduceNeg, Int.reduceToNat, Int.reduceLT, Int.reduceLE, Int.reduceGE, Int.reduceGT, Int.reduceEq]
    refine AW.loopJ (M := []) (X := Nat) (fun j => ⟨194, tmL [(0, .lst 1 (raw.map byteA)), (5, .raw (.bool other)), (6, .raw (.int .u16 how)), (17, .lst 1 (M.map byteA)), (18, .raw (.int .i64 j))], noOwn⟩)
      (fun j => j ≤ 3) (fun j => 3 - j) 0 (by decide) ?_ ?_
    · (refine Ghost.of ?_ (fun _ _ h => by cases h); (repeat' (first | exact all_nil | refine all_cons ?_ ?_)) <;> (first | (simp (dsimp := false) only [go_sem, ↓reduceIte, Nat.reduceEqDiff, Nat.reduceLT, Nat.reduceAdd, Nat.reduceSub, Nat.reduceMul, Nat.reduceLeDiff, reduceCtorEq, Int.reduceNeg, Int.reduceToNat, Int.reduceLT, Int.reduceLE, Int.reduceGE, Int.reduceGT, Int.reduceEq]; done) | (simp (dsimp := false) only [go_sem, ↓reduceIte, Nat.reduceEqDiff, Nat.reduceLT, Nat.reduceAdd, Nat.reduceSub, Nat.reduceMul, Nat.reduceLeDiff, reduceCtorEq, Int.reduceNeg, Int.reduceToNat, Int.reduceLT, Int.reduceLE, Int.reduceGE, Int.reduceGT, Int.reduceEq]; rfl)))
    intro j hj
    by_cases hj2 : (j : Int) < 3
    · have w1 : IntKind.i64.wrap ((j : Int) + 1) = ((j + 1 : Nat) : Int) := by rw [wrap_i64 (by omega) (by omega)]; omega
      simp (dsimp := false) only [go_sem, ↓reduceIte, Nat.reduceEqDiff, Nat.reduceLT, Nat.reduceAdd, Nat.reduceSub, Nat.reduceMul, Nat.reduceLeDiff, reduceCtorEq, Int.reduceNeg, Int.reduceToNat, Int.reduceLT, Int.reduceLE, Int.reduceGE, Int.reduceGT, Int.reduceEq, hj2]
      refine ACs.pn (Spoil_pn M how (by omega) hh.1 hh.2) ?_
      rintro _ ⟨sp, rfl, hspl⟩
      obtain ⟨X, hX, hXl⟩ : ∃ X : List UInt8, [AV.lst 1 (raw.map byteA), AV.lst 1 (M.map byteA), AV.lst 1 (sp.map byteA)].getD j .any = AV.lst 1 (X.map byteA) ∧ X.length ≤ 3000 := by
        match j, (show j < 3 by omega) with
        | 0, _ => exact ⟨_, rfl, by omega⟩
        | 1, _ => exact ⟨_, rfl, by omega⟩
        | 2, _ => exact ⟨_, rfl, by omega⟩
      simp (dsimp := false) only [go_sem, ↓reduceIte, Nat.reduceEqDiff, Nat.reduceLT, Nat.reduceAdd, Nat.reduceSub, Nat.reduceMul, Nat.reduceLeDiff, reduceCtorEq, Int.reduceNeg, Int.reduceToNat, Int.reduceLT, Int.reduceLE, Int.reduceGE, Int.reduceGT, Int.reduceEq, hX]
      (try refine ⟨by omega, ?_⟩)
      refine ACs.pn (apDecode_pn X (by omega)) ?_
      intro d1 hd1
      obtain ⟨u0, u1, u2, u3, u4, u5, ue, rfl⟩ := hd1.form
      have hsm := SameAp_refl u0 u1 u2 u3 u4 u5
      unfold apA at hd1 hsm ⊢
      simp (dsimp := false) only [go_sem, ↓reduceIte, Nat.reduceEqDiff, Nat.reduceLT, Nat.reduceAdd, Nat.reduceSub, Nat.reduceMul, Nat.reduceLeDiff, reduceCtorEq, Int.reduceNeg, Int.reduceToNat, Int.reduceLT, Int.reduceLE, Int.reduceGE, Int.reduceGT, Int.reduceEq]
      intro k1 hk1
      refine ACs.pn (rapDecode_pn X (by omega)) ?_
      intro d2 hd2
      have hd2 := hd2.unique hd1
      subst hd2
      simp (dsimp := false) only [go_sem, ↓reduceIte, Nat.reduceEqDiff, Nat.reduceLT, Nat.reduceAdd, Nat.reduceSub, Nat.reduceMul, Nat.reduceLeDiff, reduceCtorEq, Int.reduceNeg, Int.reduceToNat, Int.reduceLT, Int.reduceLE, Int.reduceGE, Int.reduceGT, Int.reduceEq]
      intro k2 hk2
      have qk2 := none_ne hk2
      have fk2 : ∀ (own : Own) o, (own.set k2 o) k1 = own k1 := fun own o => Own.set_ne _ _ (Ne.symm qk2)
      simp (dsimp := false) only [go_sem, ↓reduceIte, Nat.reduceEqDiff, Nat.reduceLT, Nat.reduceAdd, Nat.reduceSub, Nat.reduceMul, Nat.reduceLeDiff, reduceCtorEq, Int.reduceNeg, Int.reduceToNat, Int.reduceLT, Int.reduceLE, Int.reduceGE, Int.reduceGT, Int.reduceEq, fk2]
      refine ACs.pure hsm ?_
      simp (dsimp := false) only [go_sem, ↓reduceIte, Nat.reduceEqDiff, Nat.reduceLT, Nat.reduceAdd, Nat.reduceSub, Nat.reduceMul, Nat.reduceLeDiff, reduceCtorEq, Int.reduceNeg, Int.reduceToNat, Int.reduceLT, Int.reduceLE, Int.reduceGE, Int.reduceGT, Int.reduceEq]
      refine ACs.pn (tgsDecode_pn X (by omega)) ?_
      intro d1 hd1
      obtain ⟨u0, u1, u2, u3, u4, u5, u6, u7, u8, u9, ue, rfl⟩ := hd1.form
      have hsm := SameTgs_refl u0 u1 u2 u3 u4 u5 u6 u7 u8 u9
      unfold tgsA at hd1 hsm ⊢
      simp (dsimp := false) only [go_sem, ↓reduceIte, Nat.reduceEqDiff, Nat.reduceLT, Nat.reduceAdd, Nat.reduceSub, Nat.reduceMul, Nat.reduceLeDiff, reduceCtorEq, Int.reduceNeg, Int.reduceToNat, Int.reduceLT, Int.reduceLE, Int.reduceGE, Int.reduceGT, Int.reduceEq]
      intro k3 hk3
      refine ACs.pn (rtgsDecode_pn X (by omega)) ?_
      intro d2 hd2
      have hd2 := hd2.unique hd1
      subst hd2
      simp (dsimp := false) only [go_sem, ↓reduceIte, Nat.reduceEqDiff, Nat.reduceLT, Nat.reduceAdd, Nat.reduceSub, Nat.reduceMul, Nat.reduceLeDiff, reduceCtorEq, Int.reduceNeg, Int.reduceToNat, Int.reduceLT, Int.reduceLE, Int.reduceGE, Int.reduceGT, Int.reduceEq]
      intro k4 hk4
      have qk4 := none_ne hk4
      have fk4 : ∀ (own : Own) o, (own.set k4 o) k3 = own k3 := fun own o => Own.set_ne _ _ (Ne.symm qk4)
      simp (dsimp := false) only [go_sem, ↓reduceIte, Nat.reduceEqDiff, Nat.reduceLT, Nat.reduceAdd, Nat.reduceSub, Nat.reduceMul, Nat.reduceLeDiff, reduceCtorEq, Int.reduceNeg, Int.reduceToNat, Int.reduceLT, Int.reduceLE, Int.reduceGE, Int.reduceGT, Int.reduceEq, fk4]
      refine ACs.pure hsm ?_
      simp (dsimp := false) only [go_sem, ↓reduceIte, Nat.reduceEqDiff, Nat.reduceLT, Nat.reduceAdd, Nat.reduceSub, Nat.reduceMul, Nat.reduceLeDiff, reduceCtorEq, Int.reduceNeg, Int.reduceToNat, Int.reduceLT, Int.reduceLE, Int.reduceGE, Int.reduceGT, Int.reduceEq]
      refine ACs.pn (mutDecode_pn X other (by omega)) ?_
      intro d1 hd1
      obtain ⟨u0, u1, u2, u3, ue, rfl⟩ := hd1.form
      unfold mutA at hd1 ⊢
      simp (dsimp := false) only [go_sem, ↓reduceIte, Nat.reduceEqDiff, Nat.reduceLT, Nat.reduceAdd, Nat.reduceSub, Nat.reduceMul, Nat.reduceLeDiff, reduceCtorEq, Int.reduceNeg, Int.reduceToNat, Int.reduceLT, Int.reduceLE, Int.reduceGE, Int.reduceGT, Int.reduceEq]
      intro k5 hk5
      refine ACs.pn (rmutDecode_pn X other (by omega)) ?_
      intro d2 hd2
      have hd2 := hd2.unique hd1
      subst hd2
      simp (dsimp := false) only [go_sem, ↓reduceIte, Nat.reduceEqDiff, Nat.reduceLT, Nat.reduceAdd, Nat.reduceSub, Nat.reduceMul, Nat.reduceLeDiff, reduceCtorEq, Int.reduceNeg, Int.reduceToNat, Int.reduceLT, Int.reduceLE, Int.reduceGE, Int.reduceGT, Int.reduceEq]
      intro k6 hk6
      have qk6 := none_ne hk6
      have fk6 : ∀ (own : Own) o, (own.set k6 o) k5 = own k5 := fun own o => Own.set_ne _ _ (Ne.symm qk6)
      simp (dsimp := false) only [go_sem, ↓reduceIte, Nat.reduceEqDiff, Nat.reduceLT, Nat.reduceAdd, Nat.reduceSub, Nat.reduceMul, Nat.reduceLeDiff, reduceCtorEq, Int.reduceNeg, Int.reduceToNat, Int.reduceLT, Int.reduceLE, Int.reduceGE, Int.reduceGT, Int.reduceEq, fk6]
      refine ACs.pn (ansDecode_pn X (by omega)) ?_
      intro d1 hd1
      obtain ⟨v0, v1, ve, rfl⟩ := hd1.form
      simp (dsimp := false) only [go_sem, ↓reduceIte, Nat.reduceEqDiff, Nat.reduceLT, Nat.reduceAdd, Nat.reduceSub, Nat.reduceMul, Nat.reduceLeDiff, reduceCtorEq, Int.reduceNeg, Int.reduceToNat, Int.reduceLT, Int.reduceLE, Int.reduceGE, Int.reduceGT, Int.reduceEq]
      refine ACs.pn (ransDecode_pn X (by omega)) ?_
      intro d2 hd2
      have hd2 := hd2.unique hd1
      subst hd2
      have g1 : (!(v1 == v1)) = false := by cases v1 <;> rfl
      simp (dsimp := false) only [go_sem, ↓reduceIte, Nat.reduceEqDiff, Nat.reduceLT, Nat.reduceAdd, Nat.reduceSub, Nat.reduceMul, Nat.reduceLeDiff, reduceCtorEq, Int.reduceNeg, Int.reduceToNat, Int.reduceLT, Int.reduceLE, Int.reduceGE, Int.reduceGT, Int.reduceEq, bytes_eq, g1, w1]
      refine ⟨j + 1, by omega, ?_, by omega⟩
      (refine Ghost.of ?_ (fun _ _ h => by cases h); (repeat' (first | exact all_nil | refine all_cons ?_ ?_)) <;> (first | (simp (dsimp := false) only [go_sem, ↓reduceIte, Nat.reduceEqDiff, Nat.reduceLT, Nat.reduceAdd, Nat.reduceSub, Nat.reduceMul, Nat.reduceLeDiff, reduceCtorEq, Int.reduceNeg, Int.reduceToNat, Int.reduceLT, Int.reduceLE, Int.reduceGE, Int.reduceGT, Int.reduceEq]; done) | (simp (dsimp := false) only [go_sem, ↓reduceIte, Nat.reduceEqDiff, Nat.reduceLT, Nat.reduceAdd, Nat.reduceSub, Nat.reduceMul, Nat.reduceLeDiff, reduceCtorEq, Int.reduceNeg, Int.reduceToNat, Int.reduceLT, Int.reduceLE, Int.reduceGE, Int.reduceGT, Int.reduceEq]; rfl)))
    · simp (dsimp := false) only [go_sem, ↓reduceIte, Nat.reduceEqDiff, Nat.reduceLT, Nat.reduceAdd, Nat.reduceSub, Nat.reduceMul, Nat.reduceLeDiff, reduceCtorEq, Int.reduceNeg, Int.reduceToNat, Int.reduceLT, Int.reduceLE, Int.reduceGE, Int.reduceGT, Int.reduceEq, hj2]
  · have hE := rtgsEncode_pure xl false xk (rlm xr) tk' au' is' li' s' t' (by omega) (by omega) (by omega) (by omega) (by omega)
    have hl : (if tgsChk xl false xk (rlm xr) tk' au' is' li' s' t' = 0 then tgsB xl false xk (rlm xr) tk' au' is' li' s' t' else []).length ≤ 2000 := by
      have := tgsB_length xl false xk (rlm xr) tk' au' is' li' s' t'
      split
      · omega
      · exact Nat.zero_le _
    unfold tgsA tgsE at hE
    obtain ⟨M, hM⟩ : ∃ M, (if tgsChk xl false xk (rlm xr) tk' au' is' li' s' t' = 0 then tgsB xl false xk (rlm xr) tk' au' is' li' s' t' else []) = M := ⟨_, rfl⟩
    rw [hM] at hE hl
    obtain ⟨E, hEE⟩ : ∃ E, tgsChk xl false xk (rlm xr) tk' au' is' li' s' t' = E := ⟨_, rfl⟩
    rw [hEE] at hE
    simp (dsimp := false) only [go_sem, ↓reduceIte, Nat.reduceEqDiff, Nat.reduceLT, Nat.reduceAdd, Nat.reduceSub, Nat.reduceMul, Nat.reduceLeDiff, reduceCtorEq, Int.reduceNeg, Int.reduceToNat, Int.reduceLT, Int.reduceLE, Int.reduceGE, Int.reduceGT, Int.reduceEq, h4, f0, f0', wa]
    refine ACs.pure hE ?_
    simp (dsimp := false) only [go_sem, ↓reduceIte, Nat.reduceEqDiff, Nat.reduceLT, Nat.reduceAdd, Nat.reduceSub, Nat.reduceMul, Nat.reduceLeDiff, reduceCtorEq, Int.reduceNeg, Int.reduceToNat, Int.reduceLT, Int.reduceLE, Int.reduceGE, Int.reduceGT, Int.reduceEq]
    refine AW.loopJ (M := []) (X := Nat) (fun j => ⟨194, tmL [(0, .lst 1 (raw.map byteA)), (5, .raw (.bool other)), (6, .raw (.int .u16 how)), (17, .lst 1 (M.map byteA)), (18, .raw (.int .i64 j))], noOwn⟩)
      (fun j => j ≤ 3) (fun j => 3 - j) 0 (by decide) ?_ ?_
    · (refine Ghost.of ?_ (fun _ _ h => by cases h); (repeat' (first | exact all_nil | refine all_cons ?_ ?_)) <;> (first | (simp (dsimp := false) only [go_sem, ↓reduceIte, Nat.reduceEqDiff, Nat.reduceLT, Nat.reduceAdd, Nat.reduceSub, Nat.reduceMul, Nat.reduceLeDiff, reduceCtorEq, Int.reduceNeg, Int.reduceToNat, Int.reduceLT, Int.reduceLE, Int.reduceGE, Int.reduceGT, Int.reduceEq]; done) | (simp (dsimp := false) only [go_sem, ↓reduceIte, Nat.reduceEqDiff, Nat.reduceLT, Nat.reduceAdd, Nat.reduceSub, Nat.reduceMul, Nat.reduceLeDiff, reduceCtorEq, Int.reduceNeg, Int.reduceToNat, Int.reduceLT, Int.reduceLE, Int.reduceGE, Int.reduceGT, Int.reduceEq]; rfl)))
    intro j hj
    by_cases hj2 : (j : Int) < 3
    · have w1 : IntKind.i64.wrap ((j : Int) + 1) = ((j + 1 : Nat) : Int) := by rw [wrap_i64 (by omega) (by omega)]; omega
      simp (dsimp := false) only [go_sem, ↓reduceIte, Nat.reduceEqDiff, Nat.reduceLT, Nat.reduceAdd, Nat.reduceSub, Nat.reduceMul, Nat.reduceLeDiff, reduceCtorEq, Int.reduceNeg, Int.reduceToNat, Int.reduceLT, Int.reduceLE, Int.reduceGE, Int.reduceGT, Int.reduceEq, hj2]
      refine ACs.pn (Spoil_pn M how (by omega) hh.1 hh.2) ?_
      rintro _ ⟨sp, rfl, hspl⟩
      obtain ⟨X, hX, hXl⟩ : ∃ X : List UInt8, [AV.lst 1 (raw.map byteA), AV.lst 1 (M.map byteA), AV.lst 1 (sp.map byteA)].getD j .any = AV.lst 1 (X.map byteA) ∧ X.length ≤ 3000 := by
        match j, (show j < 3 by omega) with
        | 0, _ => exact ⟨_, rfl, by omega⟩
        | 1, _ => exact ⟨_, rfl, by omega⟩
        | 2, _ => exact ⟨_, rfl, by omega⟩
      simp (dsimp := false) only [go_sem, ↓reduceIte, Nat.reduceEqDiff, Nat.reduceLT, Nat.reduceAdd, Nat.reduceSub, Nat.reduceMul, Nat.reduceLeDiff, reduceCtorEq, Int.reduceNeg, Int.reduceToNat, Int.reduceLT, Int.reduceLE, Int.reduceGE, Int.reduceGT, Int.reduceEq, hX]
      (try refine ⟨by omega, ?_⟩)
      refine ACs.pn (apDecode_pn X (by omega)) ?_
      intro d1 hd1
      obtain ⟨u0, u1, u2, u3, u4, u5, ue, rfl⟩ := hd1.form
      have hsm := SameAp_refl u0 u1 u2 u3 u4 u5
      unfold apA at hd1 hsm ⊢
      simp (dsimp := false) only [go_sem, ↓reduceIte, Nat.reduceEqDiff, Nat.reduceLT, Nat.reduceAdd, Nat.reduceSub, Nat.reduceMul, Nat.reduceLeDiff, reduceCtorEq, Int.reduceNeg, Int.reduceToNat, Int.reduceLT, Int.reduceLE, Int.reduceGE, Int.reduceGT, Int.reduceEq]
      intro k1 hk1
      refine ACs.pn (rapDecode_pn X (by omega)) ?_
      intro d2 hd2
      have hd2 := hd2.unique hd1
      subst hd2
      simp (dsimp := false) only [go_sem, ↓reduceIte, Nat.reduceEqDiff, Nat.reduceLT, Nat.reduceAdd, Nat.reduceSub, Nat.reduceMul, Nat.reduceLeDiff, reduceCtorEq, Int.reduceNeg, Int.reduceToNat, Int.reduceLT, Int.reduceLE, Int.reduceGE, Int.reduceGT, Int.reduceEq]
      intro k2 hk2
      have qk2 := none_ne hk2
      have fk2 : ∀ (own : Own) o, (own.set k2 o) k1 = own k1 := fun own o => Own.set_ne _ _ (Ne.symm qk2)
      simp (dsimp := false) only [go_sem, ↓reduceIte, Nat.reduceEqDiff, Nat.reduceLT, Nat.reduceAdd, Nat.reduceSub, Nat.reduceMul, Nat.reduceLeDiff, reduceCtorEq, Int.reduceNeg, Int.reduceToNat, Int.reduceLT, Int.reduceLE, Int.reduceGE, Int.reduceGT, Int.reduceEq, fk2]
      refine ACs.pure hsm ?_
      simp (dsimp := false) only [go_sem, ↓reduceIte, Nat.reduceEqDiff, Nat.reduceLT, Nat.reduceAdd, Nat.reduceSub, Nat.reduceMul, Nat.reduceLeDiff, reduceCtorEq, Int.reduceNeg, Int.reduceToNat, Int.reduceLT, Int.reduceLE, Int.reduceGE, Int.reduceGT, Int.reduceEq]
      refine ACs.pn (tgsDecode_pn X (by omega)) ?_
      intro d1 hd1
      obtain ⟨u0, u1, u2, u3, u4, u5, u6, u7, u8, u9, ue, rfl⟩ := hd1.form
      have hsm := SameTgs_refl u0 u1 u2 u3 u4 u5 u6 u7 u8 u9
      unfold tgsA at hd1 hsm ⊢
      simp (dsimp := false) only [go_sem, ↓reduceIte, Nat.reduceEqDiff, Nat.reduceLT, Nat.reduceAdd, Nat.reduceSub, Nat.reduceMul, Nat.reduceLeDiff, reduceCtorEq, Int.reduceNeg, Int.reduceToNat, Int.reduceLT, Int.reduceLE, Int.reduceGE, Int.reduceGT, Int.reduceEq]
      intro k3 hk3
      refine ACs.pn (rtgsDecode_pn X (by omega)) ?_
      intro d2 hd2
      have hd2 := hd2.unique hd1
      subst hd2
      simp (dsimp := false) only [go_sem, ↓reduceIte, Nat.reduceEqDiff, Nat.reduceLT, Nat.reduceAdd, Nat.reduceSub, Nat.reduceMul, Nat.reduceLeDiff, reduceCtorEq, Int.reduceNeg, Int.reduceToNat, Int.reduceLT, Int.reduceLE, Int.reduceGE, Int.reduceGT, Int.reduceEq]
      intro k4 hk4
      have qk4 := none_ne hk4
      have fk4 : ∀ (own : Own) o, (own.set k4 o) k3 = own k3 := fun own o => Own.set_ne _ _ (Ne.symm qk4)
      simp (dsimp := false) only [go_sem, ↓reduceIte, Nat.reduceEqDiff, Nat.reduceLT, Nat.reduceAdd, Nat.reduceSub, Nat.reduceMul, Nat.reduceLeDiff, reduceCtorEq, Int.reduceNeg, Int.reduceToNat, Int.reduceLT, Int.reduceLE, Int.reduceGE, Int.reduceGT, Int.reduceEq, fk4]
      refine ACs.pure hsm ?_
      simp (dsimp := false) only [go_sem, ↓reduceIte, Nat.reduceEqDiff, Nat.reduceLT, Nat.reduceAdd, Nat.reduceSub, Nat.reduceMul, Nat.reduceLeDiff, reduceCtorEq, Int.reduceNeg, Int.reduceToNat, Int.reduceLT, Int.reduceLE, Int.reduceGE, Int.reduceGT, Int.reduceEq]
      refine ACs.pn (mutDecode_pn X other (by omega)) ?_
      intro d1 hd1
      obtain ⟨u0, u1, u2, u3, ue, rfl⟩ := hd1.form
      unfold mutA at hd1 ⊢
      simp (dsimp := false) only [go_sem, ↓reduceIte, Nat.reduceEqDiff, Nat.reduceLT, Nat.reduceAdd, Nat.reduceSub, Nat.reduceMul, Nat.reduceLeDiff, reduceCtorEq, Int.reduceNeg, Int.reduceToNat, Int.reduceLT, Int.reduceLE, Int.reduceGE, Int.reduceGT, Int.reduceEq]
      intro k5 hk5
      refine ACs.pn (rmutDecode_pn X other (by omega)) ?_
      intro d2 hd2
      have hd2 := hd2.unique hd1
      subst hd2
      simp (dsimp := false) only [go_sem, ↓reduceIte, Nat.reduceEqDiff, Nat.reduceLT, Nat.reduceAdd, Nat.reduceSub, Nat.reduceMul, Nat.reduceLeDiff, reduceCtorEq, Int.reduceNeg, Int.reduceToNat, Int.reduceLT, Int.reduceLE, Int.reduceGE, Int.reduceGT, Int.reduceEq]
      intro k6 hk6
      have qk6 := none_ne hk6
      have fk6 : ∀ (own : Own) o, (own.set k6 o) k5 = own k5 := fun own o => Own.set_ne _ _ (Ne.symm qk6)
      simp (dsimp := false) only [go_sem, ↓reduceIte, Nat.reduceEqDiff, Nat.reduceLT, Nat.reduceAdd, Nat.reduceSub, Nat.reduceMul, Nat.reduceLeDiff, reduceCtorEq, Int.reduceNeg, Int.reduceToNat, Int.reduceLT, Int.reduceLE, Int.reduceGE, Int.reduceGT, Int.reduceEq, fk6]
      refine ACs.pn (ansDecode_pn X (by omega)) ?_
      intro d1 hd1
      obtain ⟨v0, v1, ve, rfl⟩ := hd1.form
      simp (dsimp := false) only [go_sem, ↓reduceIte, Nat.reduceEqDiff, Nat.reduceLT, Nat.reduceAdd, Nat.reduceSub, Nat.reduceMul, Nat.reduceLeDiff, reduceCtorEq, Int.reduceNeg, Int.reduceToNat, Int.reduceLT, Int.reduceLE, Int.reduceGE, Int.reduceGT, Int.reduceEq]
      refine ACs.pn (ransDecode_pn X (by omega)) ?_
      intro d2 hd2
      have hd2 := hd2.unique hd1
      subst hd2
      have g1 : (!(v1 == v1)) = false := by cases v1 <;> rfl
      simp (dsimp := false) only [go_sem, ↓reduceIte, Nat.reduceEqDiff, Nat.reduceLT, Nat.reduceAdd, Nat.reduceSub, Nat.reduceMul, Nat.reduceLeDiff, reduceCtorEq, Int.reduceNeg, Int.reduceToNat, Int.reduceLT, Int.reduceLE, Int.reduceGE, Int.reduceGT, Int.reduceEq, bytes_eq, g1, w1]
      refine ⟨j + 1, by omega, ?_, by omega⟩
      (refine Ghost.of ?_ (fun _ _ h => by cases h); (repeat' (first | exact all_nil | refine all_cons ?_ ?_)) <;> (first | (simp (dsimp := false) only [go_sem, ↓reduceIte, Nat.reduceEqDiff, Nat.reduceLT, Nat.reduceAdd, Nat.reduceSub, Nat.reduceMul, Nat.reduceLeDiff, reduceCtorEq, Int.reduceNeg, Int.reduceToNat, Int.reduceLT, Int.reduceLE, Int.reduceGE, Int.reduceGT, Int.reduceEq]; done) | (simp (dsimp := false) only [go_sem, ↓reduceIte, Nat.reduceEqDiff, Nat.reduceLT, Nat.reduceAdd, Nat.reduceSub, Nat.reduceMul, Nat.reduceLeDiff, reduceCtorEq, Int.reduceNeg, Int.reduceToNat, Int.reduceLT, Int.reduceLE, Int.reduceGE, Int.reduceGT, Int.reduceEq]; rfl)))
    · simp (dsimp := false) only [go_sem, ↓reduceIte, Nat.reduceEqDiff, Nat.reduceLT, Nat.reduceAdd, Nat.reduceSub, Nat.reduceMul, Nat.reduceLeDiff, reduceCtorEq, Int.reduceNeg, Int.reduceToNat, Int.reduceLT, Int.reduceLE, Int.reduceGE, Int.reduceGT, Int.reduceEq, hj2]
  · have hE := rmutEncode_pure xl a (li'.tmod 200) is' 
    have hl : (if mutChk xl a (li'.tmod 200) is' = 0 then mutB xl a (li'.tmod 200) is' else []).length ≤ 2000 := by
      have := mutB_length xl a (li'.tmod 200) is'
      split
      · omega
      · exact Nat.zero_le _
    unfold mutA mutE at hE
    obtain ⟨M, hM⟩ : ∃ M, (if mutChk xl a (li'.tmod 200) is' = 0 then mutB xl a (li'.tmod 200) is' else []) = M := ⟨_, rfl⟩
    rw [hM] at hE hl
    obtain ⟨E, hEE⟩ : ∃ E, mutChk xl a (li'.tmod 200) is' = E := ⟨_, rfl⟩
    rw [hEE] at hE
    simp (dsimp := false) only [go_sem, ↓reduceIte, Nat.reduceEqDiff, Nat.reduceLT, Nat.reduceAdd, Nat.reduceSub, Nat.reduceMul, Nat.reduceLeDiff, reduceCtorEq, Int.reduceNeg, Int.reduceToNat, Int.reduceLT, Int.reduceLE, Int.reduceGE, Int.reduceGT, Int.reduceEq, h4, f0, f0', wa]
    refine ACs.pure hE ?_
    simp (dsimp := false) only [go_sem, ↓reduceIte, Nat.reduceEqDiff, Nat.reduceLT, Nat.reduceAdd, Nat.reduceSub, Nat.reduceMul, Nat.reduceLeDiff, reduceCtorEq, Int.reduceNeg, Int.reduceToNat, Int.reduceLT, Int.reduceLE, Int.reduceGE, Int.reduceGT, Int.reduceEq]
    refine AW.loopJ (M := []) (X := Nat) (fun j => ⟨194, tmL [(0, .lst 1 (raw.map byteA)), (5, .raw (.bool other)), (6, .raw (.int .u16 how)), (17, .lst 1 (M.map byteA)), (18, .raw (.int .i64 j))], noOwn⟩)
      (fun j => j ≤ 3) (fun j => 3 - j) 0 (by decide) ?_ ?_
    · (refine Ghost.of ?_ (fun _ _ h => by cases h); (repeat' (first | exact all_nil | refine all_cons ?_ ?_)) <;> (first | (simp (dsimp := false) only [go_sem, ↓reduceIte, Nat.reduceEqDiff, Nat.reduceLT, Nat.reduceAdd, Nat.reduceSub, Nat.reduceMul, Nat.reduceLeDiff, reduceCtorEq, Int.reduceNeg, Int.reduceToNat, Int.reduceLT, Int.reduceLE, Int.reduceGE, Int.reduceGT, Int.reduceEq]; done) | (simp (dsimp := false) only [go_sem, ↓reduceIte, Nat.reduceEqDiff, Nat.reduceLT, Nat.reduceAdd, Nat.reduceSub, Nat.reduceMul, Nat.reduceLeDiff, reduceCtorEq, Int.reduceNeg, Int.reduceToNat, Int.reduceLT, Int.reduceLE, Int.reduceGE, Int.reduceGT, Int.reduceEq]; rfl)))
    intro j hj
    by_cases hj2 : (j : Int) < 3
    · have w1 : IntKind.i64.wrap ((j : Int) + 1) = ((j + 1 : Nat) : Int) := by rw [wrap_i64 (by omega) (by omega)]; omega
      simp (dsimp := false) only [go_sem, ↓reduceIte, Nat.reduceEqDiff, Nat.reduceLT, Nat.reduceAdd, Nat.reduceSub, Nat.reduceMul, Nat.reduceLeDiff, reduceCtorEq, Int.reduceNeg, Int.reduceToNat, Int.reduceLT, Int.reduceLE, Int.reduceGE, Int.reduceGT, Int.reduceEq, hj2]
      refine ACs.pn (Spoil_pn M how (by omega) hh.1 hh.2) ?_
      rintro _ ⟨sp, rfl, hspl⟩
      obtain ⟨X, hX, hXl⟩ : ∃ X : List UInt8, [AV.lst 1 (raw.map byteA), AV.lst 1 (M.map byteA), AV.lst 1 (sp.map byteA)].getD j .any = AV.lst 1 (X.map byteA) ∧ X.length ≤ 3000 := by
        match j, (show j < 3 by omega) with
        | 0, _ => exact ⟨_, rfl, by omega⟩
        | 1, _ => exact ⟨_, rfl, by omega⟩
        | 2, _ => exact ⟨_, rfl, by omega⟩
      simp (dsimp := false) only [go_sem, ↓reduceIte, Nat.reduceEqDiff, Nat.reduceLT, Nat.reduceAdd, Nat.reduceSub, Nat.reduceMul, Nat.reduceLeDiff, reduceCtorEq, Int.reduceNeg, Int.reduceToNat, Int.reduceLT, Int.reduceLE, Int.reduceGE, Int.reduceGT, Int.reduceEq, hX]
      (try refine ⟨by omega, ?_⟩)
      refine ACs.pn (apDecode_pn X (by omega)) ?_
      intro d1 hd1
      obtain ⟨u0, u1, u2, u3, u4, u5, ue, rfl⟩ := hd1.form
      have hsm := SameAp_refl u0 u1 u2 u3 u4 u5
      unfold apA at hd1 hsm ⊢
      simp (dsimp := false) only [go_sem, ↓reduceIte, Nat.reduceEqDiff, Nat.reduceLT, Nat.reduceAdd, Nat.reduceSub, Nat.reduceMul, Nat.reduceLeDiff, reduceCtorEq, Int.reduceNeg, Int.reduceToNat, Int.reduceLT, Int.reduceLE, Int.reduceGE, Int.reduceGT, Int.reduceEq]
      intro k1 hk1
      refine ACs.pn (rapDecode_pn X (by omega)) ?_
      intro d2 hd2
      have hd2 := hd2.unique hd1
      subst hd2
      simp (dsimp := false) only [go_sem, ↓reduceIte, Nat.reduceEqDiff, Nat.reduceLT, Nat.reduceAdd, Nat.reduceSub, Nat.reduceMul, Nat.reduceLeDiff, reduceCtorEq, Int.reduceNeg, Int.reduceToNat, Int.reduceLT, Int.reduceLE, Int.reduceGE, Int.reduceGT, Int.reduceEq]
      intro k2 hk2
      have qk2 := none_ne hk2
      have fk2 : ∀ (own : Own) o, (own.set k2 o) k1 = own k1 := fun own o => Own.set_ne _ _ (Ne.symm qk2)
      simp (dsimp := false) only [go_sem, ↓reduceIte, Nat.reduceEqDiff, Nat.reduceLT, Nat.reduceAdd, Nat.reduceSub, Nat.reduceMul, Nat.reduceLeDiff, reduceCtorEq, Int.reduceNeg, Int.reduceToNat, Int.reduceLT, Int.reduceLE, Int.reduceGE, Int.reduceGT, Int.reduceEq, fk2]
      refine ACs.pure hsm ?_
      simp (dsimp := false) only [go_sem, ↓reduceIte, Nat.reduceEqDiff, Nat.reduceLT, Nat.reduceAdd, Nat.reduceSub, Nat.reduceMul, Nat.reduceLeDiff, reduceCtorEq, Int.reduceNeg, Int.reduceToNat, Int.reduceLT, Int.reduceLE, Int.reduceGE, Int.reduceGT, Int.reduceEq]
      refine ACs.pn (tgsDecode_pn X (by omega)) ?_
      intro d1 hd1
      obtain ⟨u0, u1, u2, u3, u4, u5, u6, u7, u8, u9, ue, rfl⟩ := hd1.form
      have hsm := SameTgs_refl u0 u1 u2 u3 u4 u5 u6 u7 u8 u9
      unfold tgsA at hd1 hsm ⊢
      simp (dsimp := false) only [go_sem, ↓reduceIte, Nat.reduceEqDiff, Nat.reduceLT, Nat.reduceAdd, Nat.reduceSub, Nat.reduceMul, Nat.reduceLeDiff, reduceCtorEq, Int.reduceNeg, Int.reduceToNat, Int.reduceLT, Int.reduceLE, Int.reduceGE, Int.reduceGT, Int.reduceEq]
      intro k3 hk3
      refine ACs.pn (rtgsDecode_pn X (by omega)) ?_
      intro d2 hd2
      have hd2 := hd2.unique hd1
      subst hd2
      simp (dsimp := false) only [go_sem, ↓reduceIte, Nat.reduceEqDiff, Nat.reduceLT, Nat.reduceAdd, Nat.reduceSub, Nat.reduceMul, Nat.reduceLeDiff, reduceCtorEq, Int.reduceNeg, Int.reduceToNat, Int.reduceLT, Int.reduceLE, Int.reduceGE, Int.reduceGT, Int.reduceEq]
      intro k4 hk4
      have qk4 := none_ne hk4
      have fk4 : ∀ (own : Own) o, (own.set k4 o) k3 = own k3 := fun own o => Own.set_ne _ _ (Ne.symm qk4)
      simp (dsimp := false) only [go_sem, ↓reduceIte, Nat.reduceEqDiff, Nat.reduceLT, Nat.reduceAdd, Nat.reduceSub, Nat.reduceMul, Nat.reduceLeDiff, reduceCtorEq, Int.reduceNeg, Int.reduceToNat, Int.reduceLT, Int.reduceLE, Int.reduceGE, Int.reduceGT, Int.reduceEq, fk4]
      refine ACs.pure hsm ?_
      simp (dsimp := false) only [go_sem, ↓reduceIte, Nat.reduceEqDiff, Nat.reduceLT, Nat.reduceAdd, Nat.reduceSub, Nat.reduceMul, Nat.reduceLeDiff, reduceCtorEq, Int.reduceNeg, Int.reduceToNat, Int.reduceLT, Int.reduceLE, Int.reduceGE, Int.reduceGT, Int.reduceEq]
      refine ACs.pn (mutDecode_pn X other (by omega)) ?_
      intro d1 hd1
      obtain ⟨u0, u1, u2, u3, ue, rfl⟩ := hd1.form
      unfold mutA at hd1 ⊢
      simp (dsimp := false) only [go_sem, ↓reduceIte, Nat.reduceEqDiff, Nat.reduceLT, Nat.reduceAdd, Nat.reduceSub, Nat.reduceMul, Nat.reduceLeDiff, reduceCtorEq, Int.reduceNeg, Int.reduceToNat, Int.reduceLT, Int.reduceLE, Int.reduceGE, Int.reduceGT, Int.reduceEq]
      intro k5 hk5
      refine ACs.pn (rmutDecode_pn X other (by omega)) ?_
      intro d2 hd2
      have hd2 := hd2.unique hd1
      subst hd2
      simp (dsimp := false) only [go_sem, ↓reduceIte, Nat.reduceEqDiff, Nat.reduceLT, Nat.reduceAdd, Nat.reduceSub, Nat.reduceMul, Nat.reduceLeDiff, reduceCtorEq, Int.reduceNeg, Int.reduceToNat, Int.reduceLT, Int.reduceLE, Int.reduceGE, Int.reduceGT, Int.reduceEq]
      intro k6 hk6
      have qk6 := none_ne hk6
      have fk6 : ∀ (own : Own) o, (own.set k6 o) k5 = own k5 := fun own o => Own.set_ne _ _ (Ne.symm qk6)
      simp (dsimp := false) only [go_sem, ↓reduceIte, Nat.reduceEqDiff, Nat.reduceLT, Nat.reduceAdd, Nat.reduceSub, Nat.reduceMul, Nat.reduceLeDiff, reduceCtorEq, Int.reduceNeg, Int.reduceToNat, Int.reduceLT, Int.reduceLE, Int.reduceGE, Int.reduceGT, Int.reduceEq, fk6]
      refine ACs.pn (ansDecode_pn X (by omega)) ?_
      intro d1 hd1
      obtain ⟨v0, v1, ve, rfl⟩ := hd1.form
      simp (dsimp := false) only [go_sem, ↓reduceIte, Nat.reduceEqDiff, Nat.reduceLT, Nat.reduceAdd, Nat.reduceSub, Nat.reduceMul, Nat.reduceLeDiff, reduceCtorEq, Int.reduceNeg, Int.reduceToNat, Int.reduceLT, Int.reduceLE, Int.reduceGE, Int.reduceGT, Int.reduceEq]
      refine ACs.pn (ransDecode_pn X (by omega)) ?_
      intro d2 hd2
      have hd2 := hd2.unique hd1
      subst hd2
      have g1 : (!(v1 == v1)) = false := by cases v1 <;> rfl
      simp (dsimp := false) only [go_sem, ↓reduceIte, Nat.reduceEqDiff, Nat.reduceLT, Nat.reduceAdd, Nat.reduceSub, Nat.reduceMul, Nat.reduceLeDiff, reduceCtorEq, Int.reduceNeg, Int.reduceToNat, Int.reduceLT, Int.reduceLE, Int.reduceGE, Int.reduceGT, Int.reduceEq, bytes_eq, g1, w1]
      refine ⟨j + 1, by omega, ?_, by omega⟩
      (refine Ghost.of ?_ (fun _ _ h => by cases h); (repeat' (first | exact all_nil | refine all_cons ?_ ?_)) <;> (first | (simp (dsimp := false) only [go_sem, ↓reduceIte, Nat.reduceEqDiff, Nat.reduceLT, Nat.reduceAdd, Nat.reduceSub, Nat.reduceMul, Nat.reduceLeDiff, reduceCtorEq, Int.reduceNeg, Int.reduceToNat, Int.reduceLT, Int.reduceLE, Int.reduceGE, Int.reduceGT, Int.reduceEq]; done) | (simp (dsimp := false) only [go_sem, ↓reduceIte, Nat.reduceEqDiff, Nat.reduceLT, Nat.reduceAdd, Nat.reduceSub, Nat.reduceMul, Nat.reduceLeDiff, reduceCtorEq, Int.reduceNeg, Int.reduceToNat, Int.reduceLT, Int.reduceLE, Int.reduceGE, Int.reduceGT, Int.reduceEq]; rfl)))
    · simp (dsimp := false) only [go_sem, ↓reduceIte, Nat.reduceEqDiff, Nat.reduceLT, Nat.reduceAdd, Nat.reduceSub, Nat.reduceMul, Nat.reduceLeDiff, reduceCtorEq, Int.reduceNeg, Int.reduceToNat, Int.reduceLT, Int.reduceLE, Int.reduceGE, Int.reduceGT, Int.reduceEq, hj2]
  · have hE := ransEncode_pure xl tk' (by omega)
    have hl : (if ansChk xl tk' = 0 then ansB xl tk' else []).length ≤ 2000 := by
      have := ansB_length xl tk'
      split
      · omega
      · exact Nat.zero_le _
    unfold ansA ansE at hE
    obtain ⟨M, hM⟩ : ∃ M, (if ansChk xl tk' = 0 then ansB xl tk' else []) = M := ⟨_, rfl⟩
    rw [hM] at hE hl
    obtain ⟨E, hEE⟩ : ∃ E, ansChk xl tk' = E := ⟨_, rfl⟩
    rw [hEE] at hE
    simp (dsimp := false) only [go_sem, ↓reduceIte, Nat.reduceEqDiff, Nat.reduceLT, Nat.reduceAdd, Nat.reduceSub, Nat.reduceMul, Nat.reduceLeDiff, reduceCtorEq, Int.reduceNeg, Int.reduceToNat, Int.reduceLT, Int.reduceLE, Int.reduceGE, Int.reduceGT, Int.reduceEq, h4, f0, f0', wa]
    refine ACs.pure hE ?_
    simp (dsimp := false) only [go_sem, ↓reduceIte, Nat.reduceEqDiff, Nat.reduceLT, Nat.reduceAdd, Nat.reduceSub, Nat.reduceMul, Nat.reduceLeDiff, reduceCtorEq, Int.reduceNeg, Int.reduceToNat, Int.reduceLT, Int.reduceLE, Int.reduceGE, Int.reduceGT, Int.reduceEq]
    refine AW.loopJ (M := []) (X := Nat) (fun j => ⟨194, tmL [(0, .lst 1 (raw.map byteA)), (5, .raw (.bool other)), (6, .raw (.int .u16 how)), (17, .lst 1 (M.map byteA)), (18, .raw (.int .i64 j))], noOwn⟩)
      (fun j => j ≤ 3) (fun j => 3 - j) 0 (by decide) ?_ ?_
    · (refine Ghost.of ?_ (fun _ _ h => by cases h); (repeat' (first | exact all_nil | refine all_cons ?_ ?_)) <;> (first | (simp (dsimp := false) only [go_sem, ↓reduceIte, Nat.reduceEqDiff, Nat.reduceLT, Nat.reduceAdd, Nat.reduceSub, Nat.reduceMul, Nat.reduceLeDiff, reduceCtorEq, Int.reduceNeg, Int.reduceToNat, Int.reduceLT, Int.reduceLE, Int.reduceGE, Int.reduceGT, Int.reduceEq]; done) | (simp (dsimp := false) only [go_sem, ↓reduceIte, Nat.reduceEqDiff, Nat.reduceLT, Nat.reduceAdd, Nat.reduceSub, Nat.reduceMul, Nat.reduceLeDiff, reduceCtorEq, Int.reduceNeg, Int.reduceToNat, Int.reduceLT, Int.reduceLE, Int.reduceGE, Int.reduceGT, Int.reduceEq]; rfl)))
    intro j hj
    by_cases hj2 : (j : Int) < 3
    · have w1 : IntKind.i64.wrap ((j : Int) + 1) = ((j + 1 : Nat) : Int) := by rw [wrap_i64 (by omega) (by omega)]; omega
      simp (dsimp := false) only [go_sem, ↓reduceIte, Nat.reduceEqDiff, Nat.reduceLT, Nat.reduceAdd, Nat.reduceSub, Nat.reduceMul, Nat.reduceLeDiff, reduceCtorEq, Int.reduceNeg, Int.reduceToNat, Int.reduceLT, Int.reduceLE, Int.reduceGE, Int.reduceGT, Int.reduceEq, hj2]
      refine ACs.pn (Spoil_pn M how (by omega) hh.1 hh.2) ?_
      rintro _ ⟨sp, rfl, hspl⟩
      obtain ⟨X, hX, hXl⟩ : ∃ X : List UInt8, [AV.lst 1 (raw.map byteA), AV.lst 1 (M.map byteA), AV.lst 1 (sp.map byteA)].getD j .any = AV.lst 1 (X.map byteA) ∧ X.length ≤ 3000 := by
        match j, (show j < 3 by omega) with
        | 0, _ => exact ⟨_, rfl, by omega⟩
        | 1, _ => exact ⟨_, rfl, by omega⟩
        | 2, _ => exact ⟨_, rfl, by omega⟩
      simp (dsimp := false) only [go_sem, ↓reduceIte, Nat.reduceEqDiff, Nat.reduceLT, Nat.reduceAdd, Nat.reduceSub, Nat.reduceMul, Nat.reduceLeDiff, reduceCtorEq, Int.reduceNeg, Int.reduceToNat, Int.reduceLT, Int.reduceLE, Int.reduceGE, Int.reduceGT, Int.reduceEq, hX]
      (try refine ⟨by omega, ?_⟩)
      refine ACs.pn (apDecode_pn X (by omega)) ?_
      intro d1 hd1
      obtain ⟨u0, u1, u2, u3, u4, u5, ue, rfl⟩ := hd1.form
      have hsm := SameAp_refl u0 u1 u2 u3 u4 u5
      unfold apA at hd1 hsm ⊢
      simp (dsimp := false) only [go_sem, ↓reduceIte, Nat.reduceEqDiff, Nat.reduceLT, Nat.reduceAdd, Nat.reduceSub, Nat.reduceMul, Nat.reduceLeDiff, reduceCtorEq, Int.reduceNeg, Int.reduceToNat, Int.reduceLT, Int.reduceLE, Int.reduceGE, Int.reduceGT, Int.reduceEq]
      intro k1 hk1
      refine ACs.pn (rapDecode_pn X (by omega)) ?_
      intro d2 hd2
      have hd2 := hd2.unique hd1
      subst hd2
      simp (dsimp := false) only [go_sem, ↓reduceIte, Nat.reduceEqDiff, Nat.reduceLT, Nat.reduceAdd, Nat.reduceSub, Nat.reduceMul, Nat.reduceLeDiff, reduceCtorEq, Int.reduceNeg, Int.reduceToNat, Int.reduceLT, Int.reduceLE, Int.reduceGE, Int.reduceGT, Int.reduceEq]
      intro k2 hk2
      have qk2 := none_ne hk2
      have fk2 : ∀ (own : Own) o, (own.set k2 o) k1 = own k1 := fun own o => Own.set_ne _ _ (Ne.symm qk2)
      simp (dsimp := false) only [go_sem, ↓reduceIte, Nat.reduceEqDiff, Nat.reduceLT, Nat.reduceAdd, Nat.reduceSub, Nat.reduceMul, Nat.reduceLeDiff, reduceCtorEq, Int.reduceNeg, Int.reduceToNat, Int.reduceLT, Int.reduceLE, Int.reduceGE, Int.reduceGT, Int.reduceEq, fk2]
      refine ACs.pure hsm ?_
      simp (dsimp := false) only [go_sem, ↓reduceIte, Nat.reduceEqDiff, Nat.reduceLT, Nat.reduceAdd, Nat.reduceSub, Nat.reduceMul, Nat.reduceLeDiff, reduceCtorEq, Int.reduceNeg, Int.reduceToNat, Int.reduceLT, Int.reduceLE, Int.reduceGE, Int.reduceGT, Int.reduceEq]
      refine ACs.pn (tgsDecode_pn X (by omega)) ?_
      intro d1 hd1
      obtain ⟨u0, u1, u2, u3, u4, u5, u6, u7, u8, u9, ue, rfl⟩ := hd1.form
      have hsm := SameTgs_refl u0 u1 u2 u3 u4 u5 u6 u7 u8 u9
      unfold tgsA at hd1 hsm ⊢
      simp (dsimp := false) only [go_sem, ↓reduceIte, Nat.reduceEqDiff, Nat.reduceLT, Nat.reduceAdd, Nat.reduceSub, Nat.reduceMul, Nat.reduceLeDiff, reduceCtorEq, Int.reduceNeg, Int.reduceToNat, Int.reduceLT, Int.reduceLE, Int.reduceGE, Int.reduceGT, Int.reduceEq]
      intro k3 hk3
      refine ACs.pn (rtgsDecode_pn X (by omega)) ?_
      intro d2 hd2
      have hd2 := hd2.unique hd1
      subst hd2
      simp (dsimp := false) only [go_sem, ↓reduceIte, Nat.reduceEqDiff, Nat.reduceLT, Nat.reduceAdd, Nat.reduceSub, Nat.reduceMul, Nat.reduceLeDiff, reduceCtorEq, Int.reduceNeg, Int.reduceToNat, Int.reduceLT, Int.reduceLE, Int.reduceGE, Int.reduceGT, Int.reduceEq]
      intro k4 hk4
      have qk4 := none_ne hk4
      have fk4 : ∀ (own : Own) o, (own.set k4 o) k3 = own k3 := fun own o => Own.set_ne _ _ (Ne.symm qk4)
      simp (dsimp := false) only [go_sem, ↓reduceIte, Nat.reduceEqDiff, Nat.reduceLT, Nat.reduceAdd, Nat.reduceSub, Nat.reduceMul, Nat.reduceLeDiff, reduceCtorEq, Int.reduceNeg, Int.reduceToNat, Int.reduceLT, Int.reduceLE, Int.reduceGE, Int.reduceGT, Int.reduceEq, fk4]
      refine ACs.pure hsm ?_
      simp (dsimp := false) only [go_sem, ↓reduceIte, Nat.reduceEqDiff, Nat.reduceLT, Nat.reduceAdd, Nat.reduceSub, Nat.reduceMul, Nat.reduceLeDiff, reduceCtorEq, Int.reduceNeg, Int.reduceToNat, Int.reduceLT, Int.reduceLE, Int.reduceGE, Int.reduceGT, Int.reduceEq]
      refine ACs.pn (mutDecode_pn X other (by omega)) ?_
      intro d1 hd1
      obtain ⟨u0, u1, u2, u3, ue, rfl⟩ := hd1.form
      unfold mutA at hd1 ⊢
      simp (dsimp := false) only [go_sem, ↓reduceIte, Nat.reduceEqDiff, Nat.reduceLT, Nat.reduceAdd, Nat.reduceSub, Nat.reduceMul, Nat.reduceLeDiff, reduceCtorEq, Int.reduceNeg, Int.reduceToNat, Int.reduceLT, Int.reduceLE, Int.reduceGE, Int.reduceGT, Int.reduceEq]
      intro k5 hk5
      refine ACs.pn (rmutDecode_pn X other (by omega)) ?_
      intro d2 hd2
      have hd2 := hd2.unique hd1
      subst hd2
      simp (dsimp := false) only [go_sem, ↓reduceIte, Nat.reduceEqDiff, Nat.reduceLT, Nat.reduceAdd, Nat.reduceSub, Nat.reduceMul, Nat.reduceLeDiff, reduceCtorEq, Int.reduceNeg, Int.reduceToNat, Int.reduceLT, Int.reduceLE, Int.reduceGE, Int.reduceGT, Int.reduceEq]
      intro k6 hk6
      have qk6 := none_ne hk6
      have fk6 : ∀ (own : Own) o, (own.set k6 o) k5 = own k5 := fun own o => Own.set_ne _ _ (Ne.symm qk6)
      simp (dsimp := false) only [go_sem, ↓reduceIte, Nat.reduceEqDiff, Nat.reduceLT, Nat.reduceAdd, Nat.reduceSub, Nat.reduceMul, Nat.reduceLeDiff, reduceCtorEq, Int.reduceNeg, Int.reduceToNat, Int.reduceLT, Int.reduceLE, Int.reduceGE, Int.reduceGT, Int.reduceEq, fk6]
      refine ACs.pn (ansDecode_pn X (by omega)) ?_
      intro d1 hd1
      obtain ⟨v0, v1, ve, rfl⟩ := hd1.form
      simp (dsimp := false) only [go_sem, ↓reduceIte, Nat.reduceEqDiff, Nat.reduceLT, Nat.reduceAdd, Nat.reduceSub, Nat.reduceMul, Nat.reduceLeDiff, reduceCtorEq, Int.reduceNeg, Int.reduceToNat, Int.reduceLT, Int.reduceLE, Int.reduceGE, Int.reduceGT, Int.reduceEq]
      refine ACs.pn (ransDecode_pn X (by omega)) ?_
      intro d2 hd2
      have hd2 := hd2.unique hd1
      subst hd2
      have g1 : (!(v1 == v1)) = false := by cases v1 <;> rfl
      simp (dsimp := false) only [go_sem, ↓reduceIte, Nat.reduceEqDiff, Nat.reduceLT, Nat.reduceAdd, Nat.reduceSub, Nat.reduceMul, Nat.reduceLeDiff, reduceCtorEq, Int.reduceNeg, Int.reduceToNat, Int.reduceLT, Int.reduceLE, Int.reduceGE, Int.reduceGT, Int.reduceEq, bytes_eq, g1, w1]
      refine ⟨j + 1, by omega, ?_, by omega⟩
      (refine Ghost.of ?_ (fun _ _ h => by cases h); (repeat' (first | exact all_nil | refine all_cons ?_ ?_)) <;> (first | (simp (dsimp := false) only [go_sem, ↓reduceIte, Nat.reduceEqDiff, Nat.reduceLT, Nat.reduceAdd, Nat.reduceSub, Nat.reduceMul, Nat.reduceLeDiff, reduceCtorEq, Int.reduceNeg, Int.reduceToNat, Int.reduceLT, Int.reduceLE, Int.reduceGE, Int.reduceGT, Int.reduceEq]; done) | (simp (dsimp := false) only [go_sem, ↓reduceIte, Nat.reduceEqDiff, Nat.reduceLT, Nat.reduceAdd, Nat.reduceSub, Nat.reduceMul, Nat.reduceLeDiff, reduceCtorEq, Int.reduceNeg, Int.reduceToNat, Int.reduceLT, Int.reduceLE, Int.reduceGE, Int.reduceGT, Int.reduceEq]; rfl)))
    · simp (dsimp := false) only [go_sem, ↓reduceIte, Nat.reduceEqDiff, Nat.reduceLT, Nat.reduceAdd, Nat.reduceSub, Nat.reduceMul, Nat.reduceLeDiff, reduceCtorEq, Int.reduceNeg, Int.reduceToNat, Int.reduceLT, Int.reduceLE, Int.reduceGE, Int.reduceGT, Int.reduceEq, hj2]
end Go.Proofs.YtghnigbihllnmaaGreat.Fn
