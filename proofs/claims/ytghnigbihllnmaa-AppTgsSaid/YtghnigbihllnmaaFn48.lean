/- The laws on requests to a service. -/
import Derived.Test.YtghnigbihllnmaaFn47
import Derived.Test.YtghnigbihllnmaaFn46
import Derived.Test.YtghnigbihllnmaaFn21
import Derived.Test.YtghnigbihllnmaaFn11
import Derived.Test.YtghnigbihllnmaaFn1
set_option linter.unusedVariables false
set_option linter.unusedSimpArgs false
namespace Go.Proofs.Ytghnigbihllnmaa.Fn
open Go Hl Sp Ty
set_option maxRecDepth 100000
theorem apB_length (lt mu : Bool) (kv : Int) (r : ByteArray) (tk au : List UInt8) : (apB lt mu kv r tk au).length = 6 + r.size + tk.length + au.length := by
  rw [apB, List.length_append, hdB_length, apF_length]
  omega
theorem tgsB_length (lt mu : Bool) (kv : Int) (r : ByteArray) (tk au : List UInt8) (tm li : Int) (s t : ByteArray) : (tgsB lt mu kv r tk au tm li s t).length = 13 + r.size + tk.length + au.length + s.size + t.size := by
  rw [tgsB, List.length_append, hdB_length, tgsF_length]
  omega
theorem tgs_not_ap {b : List UInt8} {lt mu lt' mu' : Bool} {kv kv' : Int} {r r' : ByteArray} {tk au tk' au' : List UInt8} {tm li : Int} {s t : ByteArray} (h : apIs b lt mu kv r tk au) (h' : tgsIs b lt' mu' kv' r' tk' au' tm li s t) : False := by
  have h1 := h.read
  have h2 := h'.read
  unfold apR at h1
  unfold tgsR at h2
  simp only [Prod.mk.injEq] at h1 h2
  have er := h1.2.1.symm.trans h2.2.1
  have et := h1.2.2.2.2.1.symm.trans h2.2.2.2.2.1
  have ea := h1.2.2.2.2.2.1.symm.trans h2.2.2.2.2.2.1
  subst er et ea
  have := congrArg List.length (h.2.trans h'.2.symm)
  rw [apB_length, tgsB_length] at this
  omega
theorem tgsErr_ne (b : List UInt8) : tgsErr b ≠ 0 := by
  unfold tgsErr
  split
  · decide
  · assumption
theorem apErr_ne (b : List UInt8) : apErr b ≠ 0 := by
  unfold apErr
  split
  · decide
  · assumption
theorem tgsDec_ap {b : List UInt8} {lt mu : Bool} {kv : Int} {r : ByteArray} {tk au : List UInt8} {d : AV} (h : apIs b lt mu kv r tk au) (hd : tgsDec b d) : ∃ e, e ≠ 0 ∧ d = .tup [tgsZ, .raw (.int .i64 e)] := by
  rcases hd with ⟨_, _, _, _, _, _, _, _, _, _, h1, _⟩ | ⟨_, h1⟩
  · exact (tgs_not_ap h h1).elim
  · exact ⟨_, tgsErr_ne b, h1⟩
theorem apDec_tgs {b : List UInt8} {lt mu : Bool} {kv : Int} {r : ByteArray} {tk au : List UInt8} {tm li : Int} {s t : ByteArray} {d : AV} (h : tgsIs b lt mu kv r tk au tm li s t) (hd : apDec b d) : ∃ e, e ≠ 0 ∧ d = .tup [apZ, .raw (.int .i64 e)] := by
  rcases hd with ⟨_, _, _, _, _, _, h1, _⟩ | ⟨_, h1⟩
  · exact (tgs_not_ap h1 h).elim
  · exact ⟨_, apErr_ne b, h1⟩
theorem rlm_size (n : Int) : (rlm n).size ≤ 39 := by
  unfold rlm
  split
  · decide
  · split <;> decide
def long10B (r : ByteArray) (tk au : List UInt8) : Bool := decide ((r.size : Int) > 100) || decide ((tk.length : Int) > 400) || decide ((au.length : Int) > 400)
theorem long10B_false {r : ByteArray} {tk au : List UInt8} (h : long10B r tk au = false) : r.size ≤ 100 ∧ tk.length ≤ 400 ∧ au.length ≤ 400 := by
  unfold long10B at h
  simp only [Bool.or_eq_false_iff, decide_eq_false_iff_not] at h
  omega
theorem long10_pure (lt mu : Bool) (kv : Int) (r : ByteArray) (tk au : List UInt8) : PC Try.prog 12 [apA lt mu kv r tk au] (.raw (.bool (long10B r tk au))) := by
  refine PC.of_ac ?_
  unfold apA
  refine AC.of_body (M := []) Try.func12 rfl (by kernel_rfl) (Nat.le_of_ble_eq_true rfl) ?_; simp only [Try.results12, Try.ntmps12]
  by_cases h1 : (r.size : Int) > 100
  · simp (dsimp := false) only [go_sem, ↓reduceIte, Nat.reduceEqDiff, Nat.reduceLT, Nat.reduceAdd, Nat.reduceSub, Nat.reduceMul, Nat.reduceLeDiff, reduceCtorEq, Int.reduceNeg, Int.reduceToNat, Int.reduceLT, Int.reduceLE, Int.reduceGE, Int.reduceGT, Int.reduceEq, h1]
    simp [long10B]; omega
  by_cases h2 : (tk.length : Int) > 400
  · simp (dsimp := false) only [go_sem, ↓reduceIte, Nat.reduceEqDiff, Nat.reduceLT, Nat.reduceAdd, Nat.reduceSub, Nat.reduceMul, Nat.reduceLeDiff, reduceCtorEq, Int.reduceNeg, Int.reduceToNat, Int.reduceLT, Int.reduceLE, Int.reduceGE, Int.reduceGT, Int.reduceEq, h1, h2]
    simp [long10B]; omega
  by_cases h3 : (au.length : Int) > 400
  · simp (dsimp := false) only [go_sem, ↓reduceIte, Nat.reduceEqDiff, Nat.reduceLT, Nat.reduceAdd, Nat.reduceSub, Nat.reduceMul, Nat.reduceLeDiff, reduceCtorEq, Int.reduceNeg, Int.reduceToNat, Int.reduceLT, Int.reduceLE, Int.reduceGE, Int.reduceGT, Int.reduceEq, h1, h2, h3]
    simp [long10B]; omega
  simp (dsimp := false) only [go_sem, ↓reduceIte, Nat.reduceEqDiff, Nat.reduceLT, Nat.reduceAdd, Nat.reduceSub, Nat.reduceMul, Nat.reduceLeDiff, reduceCtorEq, Int.reduceNeg, Int.reduceToNat, Int.reduceLT, Int.reduceLE, Int.reduceGE, Int.reduceGT, Int.reduceEq, h1, h2, h3]
  simp [long10B]; omega
set_option maxHeartbeats 4000000 in
theorem apReq_det (xl xm : Bool) (xk xr : Int) (xt xa : List UInt8) (hk : 0 ≤ xk ∧ xk ≤ 255) (hr : 0 ≤ xr ∧ xr ≤ 255) : ∃ d, PC Try.prog 13 [.st [.raw (.bool xl), .raw (.bool xm), .raw (.int .u8 xk), .raw (.int .u8 xr), .lst 1 (xt.map byteA), .lst 1 (xa.map byteA)]] d ∧ ∃ tk' au', d = apA xl xm xk (rlm xr) tk' au' ∧ tk'.length ≤ 255 ∧ au'.length ≤ 255 := by
  have w1 : IntKind.i64.wrap xk = xk := wrap_i64 (by omega) (by omega)
  have w2 : IntKind.i64.wrap xr = xr := wrap_i64 (by omega) (by omega)
  have hR := Realm_pure xr hr.1
  obtain ⟨rv, hrv⟩ : ∃ d, d = AV.raw (.string (rlm xr)) := ⟨_, rfl⟩
  have ht : ∀ l : List UInt8, (l.map byteA).take 255 = (l.take 255).map byteA := fun l => List.map_take.symm
  refine ⟨apA xl xm xk (rlm xr) (if (xt.length : Int) > 255 then xt.take 255 else xt) (if (xa.length : Int) > 255 then xa.take 255 else xa), ?_, _, _, rfl, by split <;> (try simp only [List.length_take]) <;> omega, by split <;> (try simp only [List.length_take]) <;> omega⟩
  refine PC.of_ac ?_
  unfold apA
  refine AC.of_body (M := []) Try.func13 rfl (by kernel_rfl) (Nat.le_of_ble_eq_true rfl) ?_; simp only [Try.results13, Try.ntmps13]
  simp (dsimp := false) only [go_sem, ↓reduceIte, Nat.reduceEqDiff, Nat.reduceLT, Nat.reduceAdd, Nat.reduceSub, Nat.reduceMul, Nat.reduceLeDiff, reduceCtorEq, Int.reduceNeg, Int.reduceToNat, Int.reduceLT, Int.reduceLE, Int.reduceGE, Int.reduceGT, Int.reduceEq]
  intro k1 hk1
  refine AW.draw (M := []) [.v, .v, .v, .v, .v, .v, .v, .v, .v, .v, .c (rv), .v, .v, .v, .v, .v, .e, .e] mixed (by kernel_rfl) ?_
  subst hrv
  simp (dsimp := false) only [go_sem, ↓reduceIte, Nat.reduceEqDiff, Nat.reduceLT, Nat.reduceAdd, Nat.reduceSub, Nat.reduceMul, Nat.reduceLeDiff, reduceCtorEq, Int.reduceNeg, Int.reduceToNat, Int.reduceLT, Int.reduceLE, Int.reduceGE, Int.reduceGT, Int.reduceEq, w1, w2]
  refine ⟨VSem.call rfl rfl hR, ?_⟩
  intro k2 hk2
  have q1 := none_ne hk2
  have a1 : ∀ (own : Own) o, (own.set k2 o) k1 = own k1 := fun own o => Own.set_ne _ _ (Ne.symm q1)
  have a2 : ∀ (own : Own) o, (own.set k1 o) k2 = own k2 := fun own o => Own.set_ne _ _ q1
  by_cases h1 : (xt.length : Int) > 255
  · by_cases h2 : (xa.length : Int) > 255
    · rw [if_pos h1, if_pos h2]
      simp (dsimp := false) only [go_sem, ↓reduceIte, Nat.reduceEqDiff, Nat.reduceLT, Nat.reduceAdd, Nat.reduceSub, Nat.reduceMul, Nat.reduceLeDiff, reduceCtorEq, Int.reduceNeg, Int.reduceToNat, Int.reduceLT, Int.reduceLE, Int.reduceGE, Int.reduceGT, Int.reduceEq, h1, h2, a1, a2, ht]
      (try (first | omega | (refine ⟨by omega, ?_⟩; first | omega | rfl | trivial)))
    · rw [if_pos h1, if_neg h2]
      simp (dsimp := false) only [go_sem, ↓reduceIte, Nat.reduceEqDiff, Nat.reduceLT, Nat.reduceAdd, Nat.reduceSub, Nat.reduceMul, Nat.reduceLeDiff, reduceCtorEq, Int.reduceNeg, Int.reduceToNat, Int.reduceLT, Int.reduceLE, Int.reduceGE, Int.reduceGT, Int.reduceEq, h1, h2, a1, a2, ht]
      (try (first | omega | (refine ⟨by omega, ?_⟩; first | omega | rfl | trivial)))
  · by_cases h2 : (xa.length : Int) > 255
    · rw [if_neg h1, if_pos h2]
      simp (dsimp := false) only [go_sem, ↓reduceIte, Nat.reduceEqDiff, Nat.reduceLT, Nat.reduceAdd, Nat.reduceSub, Nat.reduceMul, Nat.reduceLeDiff, reduceCtorEq, Int.reduceNeg, Int.reduceToNat, Int.reduceLT, Int.reduceLE, Int.reduceGE, Int.reduceGT, Int.reduceEq, h1, h2, a1, a2, ht]
      (try (first | omega | (refine ⟨by omega, ?_⟩; first | omega | rfl | trivial)))
    · rw [if_neg h1, if_neg h2]
      simp (dsimp := false) only [go_sem, ↓reduceIte, Nat.reduceEqDiff, Nat.reduceLT, Nat.reduceAdd, Nat.reduceSub, Nat.reduceMul, Nat.reduceLeDiff, reduceCtorEq, Int.reduceNeg, Int.reduceToNat, Int.reduceLT, Int.reduceLE, Int.reduceGE, Int.reduceGT, Int.reduceEq, h1, h2, a1, a2, ht]
theorem SameAp_refl (lt mu : Bool) (kv : Int) (r : ByteArray) (tk au : List UInt8) : PC Try.prog 18 [apA lt mu kv r tk au, apA lt mu kv r tk au] (.raw (.bool true)) := by
  refine PC.of_ac ?_
  unfold apA
  refine AC.of_body (M := []) Try.func18 rfl (by kernel_rfl) (Nat.le_of_ble_eq_true rfl) ?_; simp only [Try.results18, Try.ntmps18]
  simp (dsimp := false) only [go_sem, ↓reduceIte, Nat.reduceEqDiff, Nat.reduceLT, Nat.reduceAdd, Nat.reduceSub, Nat.reduceMul, Nat.reduceLeDiff, reduceCtorEq, Int.reduceNeg, Int.reduceToNat, Int.reduceLT, Int.reduceLE, Int.reduceGE, Int.reduceGT, Int.reduceEq, bytes_eq]
theorem SameTgs_refl (lt mu : Bool) (kv : Int) (r : ByteArray) (tk au : List UInt8) (tm li : Int) (s t : ByteArray) : PC Try.prog 22 [tgsA lt mu kv r tk au tm li s t, tgsA lt mu kv r tk au tm li s t] (.raw (.bool true)) := by
  refine PC.of_ac ?_
  have h := SameAp_refl lt mu kv r tk au
  unfold apA at h
  unfold tgsA
  refine AC.of_body (M := []) Try.func22 rfl (by kernel_rfl) (Nat.le_of_ble_eq_true rfl) ?_; simp only [Try.results22, Try.ntmps22]
  simp (dsimp := false) only [go_sem, ↓reduceIte, Nat.reduceEqDiff, Nat.reduceLT, Nat.reduceAdd, Nat.reduceSub, Nat.reduceMul, Nat.reduceLeDiff, reduceCtorEq, Int.reduceNeg, Int.reduceToNat, Int.reduceLT, Int.reduceLE, Int.reduceGE, Int.reduceGT, Int.reduceEq]
  refine ACs.pure h ?_
  simp (dsimp := false) only [go_sem, ↓reduceIte, Nat.reduceEqDiff, Nat.reduceLT, Nat.reduceAdd, Nat.reduceSub, Nat.reduceMul, Nat.reduceLeDiff, reduceCtorEq, Int.reduceNeg, Int.reduceToNat, Int.reduceLT, Int.reduceLE, Int.reduceGE, Int.reduceGT, Int.reduceEq]
set_option maxHeartbeats 8000000 in
theorem AppRequests_pc (lt mu : Bool) (kv : Int) (r : ByteArray) (tk au : List UInt8) (xl xm : Bool) (xk xr : Int) (xt xa : List UInt8) (hxk : 0 ≤ xk ∧ xk ≤ 255) (hxr : 0 ≤ xr ∧ xr ≤ 255) :
    PC Try.prog 3 [apA lt mu kv r tk au, .st [.raw (.bool xl), .raw (.bool xm), .raw (.int .u8 xk), .raw (.int .u8 xr), .lst 1 (xt.map byteA), .lst 1 (xa.map byteA)]] (.raw (.bool true)) := by
  refine PC.of_ac ?_
  have hlong := long10_pure lt mu kv r tk au
  unfold apA at hlong ⊢
  refine AC.of_body (M := []) Try.func3 rfl (by kernel_rfl) (Nat.le_of_ble_eq_true rfl) ?_; simp only [Try.results3, Try.ntmps3]
  simp (dsimp := false) only [go_sem, ↓reduceIte, Nat.reduceEqDiff, Nat.reduceLT, Nat.reduceAdd, Nat.reduceSub, Nat.reduceMul, Nat.reduceLeDiff, reduceCtorEq, Int.reduceNeg, Int.reduceToNat, Int.reduceLT, Int.reduceLE, Int.reduceGE, Int.reduceGT, Int.reduceEq]
  refine ACs.pure awake10_pure ?_
  simp (dsimp := false) only [go_sem, ↓reduceIte, Nat.reduceEqDiff, Nat.reduceLT, Nat.reduceAdd, Nat.reduceSub, Nat.reduceMul, Nat.reduceLeDiff, reduceCtorEq, Int.reduceNeg, Int.reduceToNat, Int.reduceLT, Int.reduceLE, Int.reduceGE, Int.reduceGT, Int.reduceEq]
  refine ACs.pure hlong ?_
  rcases Bool.eq_false_or_eq_true (long10B r tk au) with hl | hl
  · simp (dsimp := false) only [go_sem, ↓reduceIte, Nat.reduceEqDiff, Nat.reduceLT, Nat.reduceAdd, Nat.reduceSub, Nat.reduceMul, Nat.reduceLeDiff, reduceCtorEq, Int.reduceNeg, Int.reduceToNat, Int.reduceLT, Int.reduceLE, Int.reduceGE, Int.reduceGT, Int.reduceEq, hl]
  simp (dsimp := false) only [go_sem, ↓reduceIte, Nat.reduceEqDiff, Nat.reduceLT, Nat.reduceAdd, Nat.reduceSub, Nat.reduceMul, Nat.reduceLeDiff, reduceCtorEq, Int.reduceNeg, Int.reduceToNat, Int.reduceLT, Int.reduceLE, Int.reduceGE, Int.reduceGT, Int.reduceEq, hl]
  have hz' := long10B_false hl
  obtain ⟨ad_, hA, tk', au', hd, hz⟩ := apReq_det xl xm xk xr xt xa hxk hxr
  have hrs : (rlm xr).size ≤ 39 := rlm_size xr
  unfold apA at hd
  refine AW.loopJ (M := []) (X := Nat) (fun j => ⟨74, tmL [(2, .ref (.st [.raw (.bool lt), .raw (.bool mu), .raw (.int .i64 kv), .raw (.string r), .lst 1 (tk.map byteA), .lst 1 (au.map byteA)])), (3, .ref (.st [.raw (.bool xl), .raw (.bool xm), .raw (.int .u8 xk), .raw (.int .u8 xr), .lst 1 (xt.map byteA), .lst 1 (xa.map byteA)])), (5, .raw (.int .i64 j))], noOwn⟩)
    (fun j => j ≤ 2) (fun j => 2 - j) 0 (by decide) ?_ ?_
  · (refine Ghost.same ?_; (repeat' (first | exact all_nil | refine all_cons ?_ ?_)) <;> (first | (simp (dsimp := false) only [go_sem, ↓reduceIte, Nat.reduceEqDiff, Nat.reduceLT, Nat.reduceAdd, Nat.reduceSub, Nat.reduceMul, Nat.reduceLeDiff, reduceCtorEq, Int.reduceNeg, Int.reduceToNat, Int.reduceLT, Int.reduceLE, Int.reduceGE, Int.reduceGT, Int.reduceEq]; done) | (simp (dsimp := false) only [go_sem, ↓reduceIte, Nat.reduceEqDiff, Nat.reduceLT, Nat.reduceAdd, Nat.reduceSub, Nat.reduceMul, Nat.reduceLeDiff, reduceCtorEq, Int.reduceNeg, Int.reduceToNat, Int.reduceLT, Int.reduceLE, Int.reduceGE, Int.reduceGT, Int.reduceEq]; rfl)))
  intro j hj
  by_cases hj2 : (j : Int) < 2
  · have w1 : IntKind.i64.wrap ((j : Int) + 1) = ((j + 1 : Nat) : Int) := by rw [wrap_i64 (by omega) (by omega)]; omega
    obtain ⟨LT, MU, KV, R, TK, AU, hX, hN⟩ : ∃ (LT MU : Bool) (KV : Int) (R : ByteArray) (TK AU : List UInt8), [AV.st [.raw (.bool lt), .raw (.bool mu), .raw (.int .i64 kv), .raw (.string r), .lst 1 (tk.map byteA), .lst 1 (au.map byteA)], AV.st [.raw (.bool xl), .raw (.bool xm), .raw (.int .i64 xk), .raw (.string (rlm xr)), .lst 1 (tk'.map byteA), .lst 1 (au'.map byteA)]].getD j .any = AV.st [.raw (.bool LT), .raw (.bool MU), .raw (.int .i64 KV), .raw (.string R), .lst 1 (TK.map byteA), .lst 1 (AU.map byteA)] ∧ R.size ≤ 100 ∧ TK.length ≤ 400 ∧ AU.length ≤ 400 := by
      match j, (show j < 2 by omega) with
      | 0, _ => exact ⟨_, _, _, _, _, _, rfl, by omega, by omega, by omega⟩
      | 1, _ => exact ⟨_, _, _, _, _, _, rfl, by omega, by omega, by omega⟩
    have hE1 := apEncode_pure LT MU KV R TK AU (by omega) (by omega) (by omega)
    have hE2 := rapEncode_pure LT MU KV R TK AU (by omega) (by omega) (by omega)
    have hbl := apB_length LT MU KV R TK AU
    have hdc : ∀ d, apChk LT MU KV R TK AU = 0 → apDec (apB LT MU KV R TK AU) d → d = .tup [apA LT MU KV R TK AU, .raw (.int .i64 0)] := fun d h0 h => h.of ⟨h0, rfl⟩
    have hdc2 : ∀ d, apChk LT MU KV R TK AU = 0 → tgsDec (apB LT MU KV R TK AU) d → ∃ e, e ≠ 0 ∧ d = .tup [tgsZ, .raw (.int .i64 e)] := fun d h0 h => tgsDec_ap ⟨h0, rfl⟩ h
    have hS := SameAp_refl LT MU KV R TK AU
    unfold apA apE at hE1 hE2
    unfold apA at hS
    obtain ⟨B, hB⟩ : ∃ B, apB LT MU KV R TK AU = B := ⟨_, rfl⟩
    rw [hB] at hE1 hE2 hbl hdc hdc2
    obtain ⟨E, hE⟩ : ∃ E, apChk LT MU KV R TK AU = E := ⟨_, rfl⟩
    rw [hE] at hE1 hE2 hdc hdc2
    simp (dsimp := false) only [go_sem, ↓reduceIte, Nat.reduceEqDiff, Nat.reduceLT, Nat.reduceAdd, Nat.reduceSub, Nat.reduceMul, Nat.reduceLeDiff, reduceCtorEq, Int.reduceNeg, Int.reduceToNat, Int.reduceLT, Int.reduceLE, Int.reduceGE, Int.reduceGT, Int.reduceEq, hj2]
    refine AW.draw (M := []) [.v, .v, .c (ad_), .v, .v, .v, .v, .e, .e] mixed (by kernel_rfl) ?_
    subst hd
    simp (dsimp := false) only [go_sem, ↓reduceIte, Nat.reduceEqDiff, Nat.reduceLT, Nat.reduceAdd, Nat.reduceSub, Nat.reduceMul, Nat.reduceLeDiff, reduceCtorEq, Int.reduceNeg, Int.reduceToNat, Int.reduceLT, Int.reduceLE, Int.reduceGE, Int.reduceGT, Int.reduceEq, hX]
    refine ⟨VSem.call rfl rfl hA, ?_⟩
    refine ⟨by omega, ?_⟩
    intro k1 hk1
    refine ACs.pure hE1 ?_
    simp (dsimp := false) only [go_sem, ↓reduceIte, Nat.reduceEqDiff, Nat.reduceLT, Nat.reduceAdd, Nat.reduceSub, Nat.reduceMul, Nat.reduceLeDiff, reduceCtorEq, Int.reduceNeg, Int.reduceToNat, Int.reduceLT, Int.reduceLE, Int.reduceGE, Int.reduceGT, Int.reduceEq]
    refine ACs.pure hE2 ?_
    by_cases h0 : E = 0
    · rw [if_pos h0]
      simp (dsimp := false) only [go_sem, ↓reduceIte, Nat.reduceEqDiff, Nat.reduceLT, Nat.reduceAdd, Nat.reduceSub, Nat.reduceMul, Nat.reduceLeDiff, reduceCtorEq, Int.reduceNeg, Int.reduceToNat, Int.reduceLT, Int.reduceLE, Int.reduceGE, Int.reduceGT, Int.reduceEq, h0, bytes_eq]
      refine ACs.pn (apDecode_pn B (by omega)) ?_
      intro d hd
      have hd := hdc d h0 hd
      subst hd
      unfold apA
      simp (dsimp := false) only [go_sem, ↓reduceIte, Nat.reduceEqDiff, Nat.reduceLT, Nat.reduceAdd, Nat.reduceSub, Nat.reduceMul, Nat.reduceLeDiff, reduceCtorEq, Int.reduceNeg, Int.reduceToNat, Int.reduceLT, Int.reduceLE, Int.reduceGE, Int.reduceGT, Int.reduceEq]
      intro k2 hk2
      refine ACs.pn (tgsDecode_pn B (by omega)) ?_
      intro d hd
      obtain ⟨e, he, rfl⟩ := hdc2 d h0 hd
      unfold tgsZ
      simp (dsimp := false) only [go_sem, ↓reduceIte, Nat.reduceEqDiff, Nat.reduceLT, Nat.reduceAdd, Nat.reduceSub, Nat.reduceMul, Nat.reduceLeDiff, reduceCtorEq, Int.reduceNeg, Int.reduceToNat, Int.reduceLT, Int.reduceLE, Int.reduceGE, Int.reduceGT, Int.reduceEq]
      intro k3 hk3
      have q1 := none_ne hk2
      have q2 := none_ne hk3
      rw [Own.set_ne _ _ q2] at hk3
      have q3 := none_ne hk3
      have a1 : ∀ (own : Own) o, (own.set k2 o) k1 = own k1 := fun own o => Own.set_ne _ _ (Ne.symm q1)
      have a2 : ∀ (own : Own) o, (own.set k1 o) k2 = own k2 := fun own o => Own.set_ne _ _ q1
      have a3 : ∀ (own : Own) o, (own.set k3 o) k2 = own k2 := fun own o => Own.set_ne _ _ (Ne.symm q2)
      have a4 : ∀ (own : Own) o, (own.set k3 o) k1 = own k1 := fun own o => Own.set_ne _ _ (Ne.symm q3)
      simp (dsimp := false) only [go_sem, ↓reduceIte, Nat.reduceEqDiff, Nat.reduceLT, Nat.reduceAdd, Nat.reduceSub, Nat.reduceMul, Nat.reduceLeDiff, reduceCtorEq, Int.reduceNeg, Int.reduceToNat, Int.reduceLT, Int.reduceLE, Int.reduceGE, Int.reduceGT, Int.reduceEq, a1, a2, a3, a4]
      refine ACs.pure hS ?_
      simp (dsimp := false) only [go_sem, ↓reduceIte, Nat.reduceEqDiff, Nat.reduceLT, Nat.reduceAdd, Nat.reduceSub, Nat.reduceMul, Nat.reduceLeDiff, reduceCtorEq, Int.reduceNeg, Int.reduceToNat, Int.reduceLT, Int.reduceLE, Int.reduceGE, Int.reduceGT, Int.reduceEq, he, w1]
      refine ⟨j + 1, by omega, ?_, by omega⟩
      (refine Ghost.of ?_ (fun _ _ h => by cases h); (repeat' (first | exact all_nil | refine all_cons ?_ ?_)) <;> (first | (simp (dsimp := false) only [go_sem, ↓reduceIte, Nat.reduceEqDiff, Nat.reduceLT, Nat.reduceAdd, Nat.reduceSub, Nat.reduceMul, Nat.reduceLeDiff, reduceCtorEq, Int.reduceNeg, Int.reduceToNat, Int.reduceLT, Int.reduceLE, Int.reduceGE, Int.reduceGT, Int.reduceEq]; done) | (simp (dsimp := false) only [go_sem, ↓reduceIte, Nat.reduceEqDiff, Nat.reduceLT, Nat.reduceAdd, Nat.reduceSub, Nat.reduceMul, Nat.reduceLeDiff, reduceCtorEq, Int.reduceNeg, Int.reduceToNat, Int.reduceLT, Int.reduceLE, Int.reduceGE, Int.reduceGT, Int.reduceEq]; rfl)))
    · rw [if_neg h0]
      have hbn : bytesOf [] = some [] := rfl
      simp (dsimp := false) only [go_sem, ↓reduceIte, Nat.reduceEqDiff, Nat.reduceLT, Nat.reduceAdd, Nat.reduceSub, Nat.reduceMul, Nat.reduceLeDiff, reduceCtorEq, Int.reduceNeg, Int.reduceToNat, Int.reduceLT, Int.reduceLE, Int.reduceGE, Int.reduceGT, Int.reduceEq, h0, bytes_eq, hbn, w1]
      refine ⟨j + 1, by omega, ?_, by omega⟩
      (refine Ghost.of ?_ (fun _ _ h => by cases h); (repeat' (first | exact all_nil | refine all_cons ?_ ?_)) <;> (first | (simp (dsimp := false) only [go_sem, ↓reduceIte, Nat.reduceEqDiff, Nat.reduceLT, Nat.reduceAdd, Nat.reduceSub, Nat.reduceMul, Nat.reduceLeDiff, reduceCtorEq, Int.reduceNeg, Int.reduceToNat, Int.reduceLT, Int.reduceLE, Int.reduceGE, Int.reduceGT, Int.reduceEq]; done) | (simp (dsimp := false) only [go_sem, ↓reduceIte, Nat.reduceEqDiff, Nat.reduceLT, Nat.reduceAdd, Nat.reduceSub, Nat.reduceMul, Nat.reduceLeDiff, reduceCtorEq, Int.reduceNeg, Int.reduceToNat, Int.reduceLT, Int.reduceLE, Int.reduceGE, Int.reduceGT, Int.reduceEq]; rfl)))
  · simp (dsimp := false) only [go_sem, ↓reduceIte, Nat.reduceEqDiff, Nat.reduceLT, Nat.reduceAdd, Nat.reduceSub, Nat.reduceMul, Nat.reduceLeDiff, reduceCtorEq, Int.reduceNeg, Int.reduceToNat, Int.reduceLT, Int.reduceLE, Int.reduceGE, Int.reduceGT, Int.reduceEq, hj2]
end Go.Proofs.Ytghnigbihllnmaa.Fn
