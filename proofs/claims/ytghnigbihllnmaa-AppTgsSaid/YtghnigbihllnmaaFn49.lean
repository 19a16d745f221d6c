/- The law on TGS requests. -/
import Derived.Test.YtghnigbihllnmaaFn48
import Derived.Test.YtghnigbihllnmaaFn33
set_option linter.unusedVariables false
set_option linter.unusedSimpArgs false
namespace Go.Proofs.Ytghnigbihllnmaa.Fn
open Go Hl Sp Ty
set_option maxRecDepth 100000
set_option maxHeartbeats 8000000 in
theorem AppTgs_pc (lt mu : Bool) (kv : Int) (r : ByteArray) (tk au : List UInt8) (tm li : Int) (s t : ByteArray) (xl xm : Bool) (xk xr : Int) (xt xa : List UInt8) (bs : List UInt8) (hxk : 0 ≤ xk ∧ xk ≤ 255) (hxr : 0 ≤ xr ∧ xr ≤ 255) :
    PC Try.prog 4 [tgsA lt mu kv r tk au tm li s t, .st [.raw (.bool xl), .raw (.bool xm), .raw (.int .u8 xk), .raw (.int .u8 xr), .lst 1 (xt.map byteA), .lst 1 (xa.map byteA)], .lst 1 (bs.map byteA)] (.raw (.bool true)) := by
  refine PC.of_ac ?_
  have hlong := long10_pure lt mu kv r tk au
  unfold apA at hlong
  unfold tgsA
  refine AC.of_body (M := []) Try.func4 rfl (by kernel_rfl) (Nat.le_of_ble_eq_true rfl) ?_; simp only [Try.results4, Try.ntmps4]
  simp (dsimp := false) only [go_sem, ↓reduceIte, Nat.reduceEqDiff, Nat.reduceLT, Nat.reduceAdd, Nat.reduceSub, Nat.reduceMul, Nat.reduceLeDiff, reduceCtorEq, Int.reduceNeg, Int.reduceToNat, Int.reduceLT, Int.reduceLE, Int.reduceGE, Int.reduceGT, Int.reduceEq]
  refine ACs.pure awake10_pure ?_
  simp (dsimp := false) only [go_sem, ↓reduceIte, Nat.reduceEqDiff, Nat.reduceLT, Nat.reduceAdd, Nat.reduceSub, Nat.reduceMul, Nat.reduceLeDiff, reduceCtorEq, Int.reduceNeg, Int.reduceToNat, Int.reduceLT, Int.reduceLE, Int.reduceGE, Int.reduceGT, Int.reduceEq]
  refine ACs.pure hlong ?_
  rcases Bool.eq_false_or_eq_true (long10B r tk au) with hl | hl
  · simp (dsimp := false) only [go_sem, ↓reduceIte, Nat.reduceEqDiff, Nat.reduceLT, Nat.reduceAdd, Nat.reduceSub, Nat.reduceMul, Nat.reduceLeDiff, reduceCtorEq, Int.reduceNeg, Int.reduceToNat, Int.reduceLT, Int.reduceLE, Int.reduceGE, Int.reduceGT, Int.reduceEq, hl]
  by_cases h1 : (s.size : Int) > 100
  · simp (dsimp := false) only [go_sem, ↓reduceIte, Nat.reduceEqDiff, Nat.reduceLT, Nat.reduceAdd, Nat.reduceSub, Nat.reduceMul, Nat.reduceLeDiff, reduceCtorEq, Int.reduceNeg, Int.reduceToNat, Int.reduceLT, Int.reduceLE, Int.reduceGE, Int.reduceGT, Int.reduceEq, hl, h1]
  by_cases h2 : (t.size : Int) > 100
  · simp (dsimp := false) only [go_sem, ↓reduceIte, Nat.reduceEqDiff, Nat.reduceLT, Nat.reduceAdd, Nat.reduceSub, Nat.reduceMul, Nat.reduceLeDiff, reduceCtorEq, Int.reduceNeg, Int.reduceToNat, Int.reduceLT, Int.reduceLE, Int.reduceGE, Int.reduceGT, Int.reduceEq, hl, h1, h2]
  by_cases h3 : (bs.length : Int) > 40
  · simp (dsimp := false) only [go_sem, ↓reduceIte, Nat.reduceEqDiff, Nat.reduceLT, Nat.reduceAdd, Nat.reduceSub, Nat.reduceMul, Nat.reduceLeDiff, reduceCtorEq, Int.reduceNeg, Int.reduceToNat, Int.reduceLT, Int.reduceLE, Int.reduceGE, Int.reduceGT, Int.reduceEq, hl, h1, h2, h3]
  simp (dsimp := false) only [go_sem, ↓reduceIte, Nat.reduceEqDiff, Nat.reduceLT, Nat.reduceAdd, Nat.reduceSub, Nat.reduceMul, Nat.reduceLeDiff, reduceCtorEq, Int.reduceNeg, Int.reduceToNat, Int.reduceLT, Int.reduceLE, Int.reduceGE, Int.reduceGT, Int.reduceEq, hl, h1, h2, h3]
  have hz' := long10B_false hl
  obtain ⟨td_, hT, lt', n', i', r', ad', k', li', is', s', t', htd, hok⟩ := Ticket_det bs (by omega)
  have hzt := hok.size
  subst htd
  refine ACs.pure hT ?_
  unfold ticketA
  simp (dsimp := false) only [go_sem, ↓reduceIte, Nat.reduceEqDiff, Nat.reduceLT, Nat.reduceAdd, Nat.reduceSub, Nat.reduceMul, Nat.reduceLeDiff, reduceCtorEq, Int.reduceNeg, Int.reduceToNat, Int.reduceLT, Int.reduceLE, Int.reduceGE, Int.reduceGT, Int.reduceEq]
  intro k0 hk0
  refine AW.ghost (Ghost.slot (t := 7) (Weak1.box (k := k0) (d := .st _) (Own.set_same _ _ _) rfl rfl)) ?_
  obtain ⟨ad_, hA, tk', au', hd, hz⟩ := apReq_det xl xm xk xr xt xa hxk hxr
  have hrs : (rlm xr).size ≤ 39 := rlm_size xr
  unfold apA at hd
  refine AW.draw (M := []) [.v, .c (ad_), .v, .v, .v, .v, .v, .v, .v, .v, .v, .e, .e] mixed (by kernel_rfl) ?_
  subst hd
  simp (dsimp := false) only [go_sem, ↓reduceIte, Nat.reduceEqDiff, Nat.reduceLT, Nat.reduceAdd, Nat.reduceSub, Nat.reduceMul, Nat.reduceLeDiff, reduceCtorEq, Int.reduceNeg, Int.reduceToNat, Int.reduceLT, Int.reduceLE, Int.reduceGE, Int.reduceGT, Int.reduceEq]
  refine ⟨VSem.call rfl rfl hA, ?_⟩
  intro km hkm
  refine AW.ghost (Ghost.slot (t := 8) (Weak1.box (k := km) (d := .st _) (Own.set_same _ _ _) rfl rfl)) ?_
  refine AW.loopJ (M := []) (X := Nat) (fun j => ⟨113, tmL [(3, .ref (.st [.raw (.bool lt), .raw (.bool mu), .raw (.int .i64 kv), .raw (.string r), .lst 1 (tk.map byteA), .lst 1 (au.map byteA), .raw (.int .i64 tm), .raw (.int .i64 li), .raw (.string s), .raw (.string t)])), (8, .ref (.st [.raw (.bool xl), .raw (.bool xm), .raw (.int .i64 xk), .raw (.string (rlm xr)), .lst 1 (tk'.map byteA), .lst 1 (au'.map byteA), .raw (.int .i64 is'), .raw (.int .i64 li'), .raw (.string s'), .raw (.string t')])), (9, .raw (.int .i64 j))], noOwn⟩)
    (fun j => j ≤ 3) (fun j => 3 - j) 0 (by decide) ?_ ?_
  · (refine Ghost.of ?_ (fun _ _ h => by cases h); (repeat' (first | exact all_nil | refine all_cons ?_ ?_)) <;> (first | (simp (dsimp := false) only [go_sem, ↓reduceIte, Nat.reduceEqDiff, Nat.reduceLT, Nat.reduceAdd, Nat.reduceSub, Nat.reduceMul, Nat.reduceLeDiff, reduceCtorEq, Int.reduceNeg, Int.reduceToNat, Int.reduceLT, Int.reduceLE, Int.reduceGE, Int.reduceGT, Int.reduceEq]; done) | (simp (dsimp := false) only [go_sem, ↓reduceIte, Nat.reduceEqDiff, Nat.reduceLT, Nat.reduceAdd, Nat.reduceSub, Nat.reduceMul, Nat.reduceLeDiff, reduceCtorEq, Int.reduceNeg, Int.reduceToNat, Int.reduceLT, Int.reduceLE, Int.reduceGE, Int.reduceGT, Int.reduceEq]; rfl)))
  intro j hj
  by_cases hj2 : (j : Int) < 3
  · have w1 : IntKind.i64.wrap ((j : Int) + 1) = ((j + 1 : Nat) : Int) := by rw [wrap_i64 (by omega) (by omega)]; omega
    obtain ⟨LT, MU, KV, R, TK, AU, TM, LI, S, T, hX, hN⟩ : ∃ (LT MU : Bool) (KV : Int) (R : ByteArray) (TK AU : List UInt8) (TM LI : Int) (S T : ByteArray), [AV.st [.raw (.bool lt), .raw (.bool mu), .raw (.int .i64 kv), .raw (.string r), .lst 1 (tk.map byteA), .lst 1 (au.map byteA), .raw (.int .i64 tm), .raw (.int .i64 li), .raw (.string s), .raw (.string t)], AV.st [.raw (.bool xl), .raw (.bool xm), .raw (.int .i64 xk), .raw (.string (rlm xr)), .lst 1 (tk'.map byteA), .lst 1 (au'.map byteA), .raw (.int .i64 is'), .raw (.int .i64 li'), .raw (.string s'), .raw (.string t')], AV.st [.raw (.bool xl), .raw (.bool xm), .raw (.int .i64 xk), .raw (.string (rlm xr)), .lst 1 (tk'.map byteA), .lst 1 (au'.map byteA), .raw (.int .i64 is'), .raw (.int .i64 li'), .raw (.string s'), .raw (.string t')]].getD j .any = AV.st [.raw (.bool LT), .raw (.bool MU), .raw (.int .i64 KV), .raw (.string R), .lst 1 (TK.map byteA), .lst 1 (AU.map byteA), .raw (.int .i64 TM), .raw (.int .i64 LI), .raw (.string S), .raw (.string T)] ∧ R.size ≤ 100 ∧ TK.length ≤ 400 ∧ AU.length ≤ 400 ∧ S.size ≤ 100 ∧ T.size ≤ 100 := by
      match j, (show j < 3 by omega) with
      | 0, _ => exact ⟨_, _, _, _, _, _, _, _, _, _, rfl, by omega, by omega, by omega, by omega, by omega⟩
      | 1, _ => exact ⟨_, _, _, _, _, _, _, _, _, _, rfl, by omega, by omega, by omega, by omega, by omega⟩
      | 2, _ => exact ⟨_, _, _, _, _, _, _, _, _, _, rfl, by omega, by omega, by omega, by omega, by omega⟩
    by_cases hjj : (j : Int) = 2
    · have w1 : IntKind.i64.wrap (2 + 1) = ((j + 1 : Nat) : Int) := by rw [show ((j + 1 : Nat) : Int) = 3 by omega]; decide
      have hE1 := tgsEncode_pure xl false xk (rlm xr) tk' au' is' li' s' t' (by omega) (by omega) (by omega) (by omega) (by omega)
      have hE2 := rtgsEncode_pure xl false xk (rlm xr) tk' au' is' li' s' t' (by omega) (by omega) (by omega) (by omega) (by omega)
      have hbl := tgsB_length xl false xk (rlm xr) tk' au' is' li' s' t'
      have hdc : ∀ d, tgsChk xl false xk (rlm xr) tk' au' is' li' s' t' = 0 → tgsDec (tgsB xl false xk (rlm xr) tk' au' is' li' s' t') d → d = .tup [tgsA xl false xk (rlm xr) tk' au' is' li' s' t', .raw (.int .i64 0)] := fun d h0 h => h.of ⟨h0, rfl⟩
      have hdc2 : ∀ d, tgsChk xl false xk (rlm xr) tk' au' is' li' s' t' = 0 → apDec (tgsB xl false xk (rlm xr) tk' au' is' li' s' t') d → ∃ e, e ≠ 0 ∧ d = .tup [apZ, .raw (.int .i64 e)] := fun d h0 h => apDec_tgs (lt := xl) (mu := false) (kv := xk) (r := (rlm xr)) (tk := tk') (au := au') (tm := is') (li := li') (s := s') (t := t') ⟨h0, rfl⟩ h
      have hS := SameTgs_refl xl false xk (rlm xr) tk' au' is' li' s' t'
      unfold tgsA tgsE at hE1 hE2
      unfold tgsA at hS
      obtain ⟨B, hB⟩ : ∃ B, tgsB xl false xk (rlm xr) tk' au' is' li' s' t' = B := ⟨_, rfl⟩
      rw [hB] at hE1 hE2 hbl hdc hdc2
      obtain ⟨E, hE⟩ : ∃ E, tgsChk xl false xk (rlm xr) tk' au' is' li' s' t' = E := ⟨_, rfl⟩
      rw [hE] at hE1 hE2 hdc hdc2
      simp (dsimp := false) only [go_sem, ↓reduceIte, Nat.reduceEqDiff, Nat.reduceLT, Nat.reduceAdd, Nat.reduceSub, Nat.reduceMul, Nat.reduceLeDiff, reduceCtorEq, Int.reduceNeg, Int.reduceToNat, Int.reduceLT, Int.reduceLE, Int.reduceGE, Int.reduceGT, Int.reduceEq, hj2, hX, hjj]
      (try refine ⟨by omega, ?_⟩)
      intro k1 hk1
      (try simp (dsimp := false) only [go_sem, ↓reduceIte, Nat.reduceEqDiff, Nat.reduceLT, Nat.reduceAdd, Nat.reduceSub, Nat.reduceMul, Nat.reduceLeDiff, reduceCtorEq, Int.reduceNeg, Int.reduceToNat, Int.reduceLT, Int.reduceLE, Int.reduceGE, Int.reduceGT, Int.reduceEq, hjj])
      refine ACs.pure hE1 ?_
      simp (dsimp := false) only [go_sem, ↓reduceIte, Nat.reduceEqDiff, Nat.reduceLT, Nat.reduceAdd, Nat.reduceSub, Nat.reduceMul, Nat.reduceLeDiff, reduceCtorEq, Int.reduceNeg, Int.reduceToNat, Int.reduceLT, Int.reduceLE, Int.reduceGE, Int.reduceGT, Int.reduceEq]
      refine ACs.pure hE2 ?_
      by_cases h0 : E = 0
      · rw [if_pos h0]
        simp (dsimp := false) only [go_sem, ↓reduceIte, Nat.reduceEqDiff, Nat.reduceLT, Nat.reduceAdd, Nat.reduceSub, Nat.reduceMul, Nat.reduceLeDiff, reduceCtorEq, Int.reduceNeg, Int.reduceToNat, Int.reduceLT, Int.reduceLE, Int.reduceGE, Int.reduceGT, Int.reduceEq, h0, bytes_eq]
        refine ACs.pn (tgsDecode_pn B (by omega)) ?_
        intro d hd
        have hd := hdc d h0 hd
        subst hd
        unfold tgsA
        simp (dsimp := false) only [go_sem, ↓reduceIte, Nat.reduceEqDiff, Nat.reduceLT, Nat.reduceAdd, Nat.reduceSub, Nat.reduceMul, Nat.reduceLeDiff, reduceCtorEq, Int.reduceNeg, Int.reduceToNat, Int.reduceLT, Int.reduceLE, Int.reduceGE, Int.reduceGT, Int.reduceEq]
        intro k2 hk2
        refine ACs.pn (apDecode_pn B (by omega)) ?_
        intro d hd
        obtain ⟨e, he, rfl⟩ := hdc2 d h0 hd
        unfold apZ
        simp (dsimp := false) only [go_sem, ↓reduceIte, Nat.reduceEqDiff, Nat.reduceLT, Nat.reduceAdd, Nat.reduceSub, Nat.reduceMul, Nat.reduceLeDiff, reduceCtorEq, Int.reduceNeg, Int.reduceToNat, Int.reduceLT, Int.reduceLE, Int.reduceGE, Int.reduceGT, Int.reduceEq]
        intro k3 hk3
        have q1 := none_ne hk2
        have q2 := none_ne hk3
        rw [Own.set_ne _ _ q2] at hk3
        have q3 := none_ne hk3
        have a1 : ∀ (own : Own) o, (own.set k2 o) k1 = own k1 := fun own o => Own.set_ne _ _ (Ne.symm q1)
        have a2 : ∀ (own : Own) o, (own.set k1 o) k2 = own k2 := fun own o => Own.set_ne _ _ q1
        have a3 : ∀ (own : Own) o, (own.set k3 o) k2 = own k2 := fun own o => Own.set_ne _ _ (Ne.symm q2)
        have a4 : ∀ (own : Own) o, (own.set k3 o) k1 = own k1 := fun own o => Own.set_ne _ _ (Ne.symm q3)
        simp (dsimp := false) only [go_sem, ↓reduceIte, Nat.reduceEqDiff, Nat.reduceLT, Nat.reduceAdd, Nat.reduceSub, Nat.reduceMul, Nat.reduceLeDiff, reduceCtorEq, Int.reduceNeg, Int.reduceToNat, Int.reduceLT, Int.reduceLE, Int.reduceGE, Int.reduceGT, Int.reduceEq, a1, a2, a3, a4]
        refine ACs.pure hS ?_
        simp (dsimp := false) only [go_sem, ↓reduceIte, Nat.reduceEqDiff, Nat.reduceLT, Nat.reduceAdd, Nat.reduceSub, Nat.reduceMul, Nat.reduceLeDiff, reduceCtorEq, Int.reduceNeg, Int.reduceToNat, Int.reduceLT, Int.reduceLE, Int.reduceGE, Int.reduceGT, Int.reduceEq, he, w1]
        refine ⟨j + 1, by omega, ?_, by omega⟩
        (refine Ghost.of ?_ (fun _ _ h => by cases h); (repeat' (first | exact all_nil | refine all_cons ?_ ?_)) <;> (first | (simp (dsimp := false) only [go_sem, ↓reduceIte, Nat.reduceEqDiff, Nat.reduceLT, Nat.reduceAdd, Nat.reduceSub, Nat.reduceMul, Nat.reduceLeDiff, reduceCtorEq, Int.reduceNeg, Int.reduceToNat, Int.reduceLT, Int.reduceLE, Int.reduceGE, Int.reduceGT, Int.reduceEq]; done) | (simp (dsimp := false) only [go_sem, ↓reduceIte, Nat.reduceEqDiff, Nat.reduceLT, Nat.reduceAdd, Nat.reduceSub, Nat.reduceMul, Nat.reduceLeDiff, reduceCtorEq, Int.reduceNeg, Int.reduceToNat, Int.reduceLT, Int.reduceLE, Int.reduceGE, Int.reduceGT, Int.reduceEq]; rfl)))
      · rw [if_neg h0]
        have hbn : bytesOf [] = some [] := rfl
        simp (dsimp := false) only [go_sem, ↓reduceIte, Nat.reduceEqDiff, Nat.reduceLT, Nat.reduceAdd, Nat.reduceSub, Nat.reduceMul, Nat.reduceLeDiff, reduceCtorEq, Int.reduceNeg, Int.reduceToNat, Int.reduceLT, Int.reduceLE, Int.reduceGE, Int.reduceGT, Int.reduceEq, h0, bytes_eq, hbn, w1]
        refine ⟨j + 1, by omega, ?_, by omega⟩
        (refine Ghost.of ?_ (fun _ _ h => by cases h); (repeat' (first | exact all_nil | refine all_cons ?_ ?_)) <;> (first | (simp (dsimp := false) only [go_sem, ↓reduceIte, Nat.reduceEqDiff, Nat.reduceLT, Nat.reduceAdd, Nat.reduceSub, Nat.reduceMul, Nat.reduceLeDiff, reduceCtorEq, Int.reduceNeg, Int.reduceToNat, Int.reduceLT, Int.reduceLE, Int.reduceGE, Int.reduceGT, Int.reduceEq]; done) | (simp (dsimp := false) only [go_sem, ↓reduceIte, Nat.reduceEqDiff, Nat.reduceLT, Nat.reduceAdd, Nat.reduceSub, Nat.reduceMul, Nat.reduceLeDiff, reduceCtorEq, Int.reduceNeg, Int.reduceToNat, Int.reduceLT, Int.reduceLE, Int.reduceGE, Int.reduceGT, Int.reduceEq]; rfl)))
    · have hE1 := tgsEncode_pure LT MU KV R TK AU TM LI S T (by omega) (by omega) (by omega) (by omega) (by omega)
      have hE2 := rtgsEncode_pure LT MU KV R TK AU TM LI S T (by omega) (by omega) (by omega) (by omega) (by omega)
      have hbl := tgsB_length LT MU KV R TK AU TM LI S T
      have hdc : ∀ d, tgsChk LT MU KV R TK AU TM LI S T = 0 → tgsDec (tgsB LT MU KV R TK AU TM LI S T) d → d = .tup [tgsA LT MU KV R TK AU TM LI S T, .raw (.int .i64 0)] := fun d h0 h => h.of ⟨h0, rfl⟩
      have hdc2 : ∀ d, tgsChk LT MU KV R TK AU TM LI S T = 0 → apDec (tgsB LT MU KV R TK AU TM LI S T) d → ∃ e, e ≠ 0 ∧ d = .tup [apZ, .raw (.int .i64 e)] := fun d h0 h => apDec_tgs (lt := LT) (mu := MU) (kv := KV) (r := R) (tk := TK) (au := AU) (tm := TM) (li := LI) (s := S) (t := T) ⟨h0, rfl⟩ h
      have hS := SameTgs_refl LT MU KV R TK AU TM LI S T
      unfold tgsA tgsE at hE1 hE2
      unfold tgsA at hS
      obtain ⟨B, hB⟩ : ∃ B, tgsB LT MU KV R TK AU TM LI S T = B := ⟨_, rfl⟩
      rw [hB] at hE1 hE2 hbl hdc hdc2
      obtain ⟨E, hE⟩ : ∃ E, tgsChk LT MU KV R TK AU TM LI S T = E := ⟨_, rfl⟩
      rw [hE] at hE1 hE2 hdc hdc2
      simp (dsimp := false) only [go_sem, ↓reduceIte, Nat.reduceEqDiff, Nat.reduceLT, Nat.reduceAdd, Nat.reduceSub, Nat.reduceMul, Nat.reduceLeDiff, reduceCtorEq, Int.reduceNeg, Int.reduceToNat, Int.reduceLT, Int.reduceLE, Int.reduceGE, Int.reduceGT, Int.reduceEq, hj2, hX, hjj]
      (try refine ⟨by omega, ?_⟩)
      intro k1 hk1
      (try simp (dsimp := false) only [go_sem, ↓reduceIte, Nat.reduceEqDiff, Nat.reduceLT, Nat.reduceAdd, Nat.reduceSub, Nat.reduceMul, Nat.reduceLeDiff, reduceCtorEq, Int.reduceNeg, Int.reduceToNat, Int.reduceLT, Int.reduceLE, Int.reduceGE, Int.reduceGT, Int.reduceEq, hjj])
      refine ACs.pure hE1 ?_
      simp (dsimp := false) only [go_sem, ↓reduceIte, Nat.reduceEqDiff, Nat.reduceLT, Nat.reduceAdd, Nat.reduceSub, Nat.reduceMul, Nat.reduceLeDiff, reduceCtorEq, Int.reduceNeg, Int.reduceToNat, Int.reduceLT, Int.reduceLE, Int.reduceGE, Int.reduceGT, Int.reduceEq]
      refine ACs.pure hE2 ?_
      by_cases h0 : E = 0
      · rw [if_pos h0]
        simp (dsimp := false) only [go_sem, ↓reduceIte, Nat.reduceEqDiff, Nat.reduceLT, Nat.reduceAdd, Nat.reduceSub, Nat.reduceMul, Nat.reduceLeDiff, reduceCtorEq, Int.reduceNeg, Int.reduceToNat, Int.reduceLT, Int.reduceLE, Int.reduceGE, Int.reduceGT, Int.reduceEq, h0, bytes_eq]
        refine ACs.pn (tgsDecode_pn B (by omega)) ?_
        intro d hd
        have hd := hdc d h0 hd
        subst hd
        unfold tgsA
        simp (dsimp := false) only [go_sem, ↓reduceIte, Nat.reduceEqDiff, Nat.reduceLT, Nat.reduceAdd, Nat.reduceSub, Nat.reduceMul, Nat.reduceLeDiff, reduceCtorEq, Int.reduceNeg, Int.reduceToNat, Int.reduceLT, Int.reduceLE, Int.reduceGE, Int.reduceGT, Int.reduceEq]
        intro k2 hk2
        refine ACs.pn (apDecode_pn B (by omega)) ?_
        intro d hd
        obtain ⟨e, he, rfl⟩ := hdc2 d h0 hd
        unfold apZ
        simp (dsimp := false) only [go_sem, ↓reduceIte, Nat.reduceEqDiff, Nat.reduceLT, Nat.reduceAdd, Nat.reduceSub, Nat.reduceMul, Nat.reduceLeDiff, reduceCtorEq, Int.reduceNeg, Int.reduceToNat, Int.reduceLT, Int.reduceLE, Int.reduceGE, Int.reduceGT, Int.reduceEq]
        intro k3 hk3
        have q1 := none_ne hk2
        have q2 := none_ne hk3
        rw [Own.set_ne _ _ q2] at hk3
        have q3 := none_ne hk3
        have a1 : ∀ (own : Own) o, (own.set k2 o) k1 = own k1 := fun own o => Own.set_ne _ _ (Ne.symm q1)
        have a2 : ∀ (own : Own) o, (own.set k1 o) k2 = own k2 := fun own o => Own.set_ne _ _ q1
        have a3 : ∀ (own : Own) o, (own.set k3 o) k2 = own k2 := fun own o => Own.set_ne _ _ (Ne.symm q2)
        have a4 : ∀ (own : Own) o, (own.set k3 o) k1 = own k1 := fun own o => Own.set_ne _ _ (Ne.symm q3)
        simp (dsimp := false) only [go_sem, ↓reduceIte, Nat.reduceEqDiff, Nat.reduceLT, Nat.reduceAdd, Nat.reduceSub, Nat.reduceMul, Nat.reduceLeDiff, reduceCtorEq, Int.reduceNeg, Int.reduceToNat, Int.reduceLT, Int.reduceLE, Int.reduceGE, Int.reduceGT, Int.reduceEq, a1, a2, a3, a4]
        refine ACs.pure hS ?_
        simp (dsimp := false) only [go_sem, ↓reduceIte, Nat.reduceEqDiff, Nat.reduceLT, Nat.reduceAdd, Nat.reduceSub, Nat.reduceMul, Nat.reduceLeDiff, reduceCtorEq, Int.reduceNeg, Int.reduceToNat, Int.reduceLT, Int.reduceLE, Int.reduceGE, Int.reduceGT, Int.reduceEq, he, w1]
        refine ⟨j + 1, by omega, ?_, by omega⟩
        (refine Ghost.of ?_ (fun _ _ h => by cases h); (repeat' (first | exact all_nil | refine all_cons ?_ ?_)) <;> (first | (simp (dsimp := false) only [go_sem, ↓reduceIte, Nat.reduceEqDiff, Nat.reduceLT, Nat.reduceAdd, Nat.reduceSub, Nat.reduceMul, Nat.reduceLeDiff, reduceCtorEq, Int.reduceNeg, Int.reduceToNat, Int.reduceLT, Int.reduceLE, Int.reduceGE, Int.reduceGT, Int.reduceEq]; done) | (simp (dsimp := false) only [go_sem, ↓reduceIte, Nat.reduceEqDiff, Nat.reduceLT, Nat.reduceAdd, Nat.reduceSub, Nat.reduceMul, Nat.reduceLeDiff, reduceCtorEq, Int.reduceNeg, Int.reduceToNat, Int.reduceLT, Int.reduceLE, Int.reduceGE, Int.reduceGT, Int.reduceEq]; rfl)))
      · rw [if_neg h0]
        have hbn : bytesOf [] = some [] := rfl
        simp (dsimp := false) only [go_sem, ↓reduceIte, Nat.reduceEqDiff, Nat.reduceLT, Nat.reduceAdd, Nat.reduceSub, Nat.reduceMul, Nat.reduceLeDiff, reduceCtorEq, Int.reduceNeg, Int.reduceToNat, Int.reduceLT, Int.reduceLE, Int.reduceGE, Int.reduceGT, Int.reduceEq, h0, bytes_eq, hbn, w1]
        refine ⟨j + 1, by omega, ?_, by omega⟩
        (refine Ghost.of ?_ (fun _ _ h => by cases h); (repeat' (first | exact all_nil | refine all_cons ?_ ?_)) <;> (first | (simp (dsimp := false) only [go_sem, ↓reduceIte, Nat.reduceEqDiff, Nat.reduceLT, Nat.reduceAdd, Nat.reduceSub, Nat.reduceMul, Nat.reduceLeDiff, reduceCtorEq, Int.reduceNeg, Int.reduceToNat, Int.reduceLT, Int.reduceLE, Int.reduceGE, Int.reduceGT, Int.reduceEq]; done) | (simp (dsimp := false) only [go_sem, ↓reduceIte, Nat.reduceEqDiff, Nat.reduceLT, Nat.reduceAdd, Nat.reduceSub, Nat.reduceMul, Nat.reduceLeDiff, reduceCtorEq, Int.reduceNeg, Int.reduceToNat, Int.reduceLT, Int.reduceLE, Int.reduceGE, Int.reduceGT, Int.reduceEq]; rfl)))
  · simp (dsimp := false) only [go_sem, ↓reduceIte, Nat.reduceEqDiff, Nat.reduceLT, Nat.reduceAdd, Nat.reduceSub, Nat.reduceMul, Nat.reduceLeDiff, reduceCtorEq, Int.reduceNeg, Int.reduceToNat, Int.reduceLT, Int.reduceLE, Int.reduceGE, Int.reduceGT, Int.reduceEq, hj2]
end Go.Proofs.Ytghnigbihllnmaa.Fn
