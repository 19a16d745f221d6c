/- The laws on requests to a service. -/
import Derived.Test.YtghnigbihllnmaaGreatFn47
import Derived.Test.YtghnigbihllnmaaGreatFn46
import Derived.Test.YtghnigbihllnmaaGreatFn21
import Derived.Test.YtghnigbihllnmaaGreatFn11
import Derived.Test.YtghnigbihllnmaaGreatFn1
set_option linter.unusedVariables false
set_option linter.unusedSimpArgs false
namespace Go.Proofs.YtghnigbihllnmaaGreat.Fn
open Go Hl Sp Ty
set_option maxRecDepth 100000
theorem apB_length (lt mu : Bool) (kv : Int) (r : ByteArray) (tk au : List UInt8) : (apB lt mu kv r tk au).length = 6 + r.size + tk.length + au.length := by
  rw [apB, List.length_append, hdB_length, apF_length]
  omega
theorem tgsB_length (lt mu : Bool) (kv : Int) (r : ByteArray) (tk au : List UInt8) (tm li : Int) (s t : ByteArray) : (tgsB lt mu kv r tk au tm li s t).length = 13 + r.size + tk.length + au.length + s.size + t.size := by
  rw [tgsB, List.length_append, hdB_length, tgsF_length]
  omega
theorem tgs_not_ap {b : List UInt8} {lt mu lt' mu' : Bool} {kv kv' : Int} {r r' : ByteArray} {tk au tk' au' : List UInt8} {tm li : Int} {s t : ByteArray} (h : apIs b lt mu kv r tk au) (h' : tgsIs b lt' mu' kv' r' tk' au' tm li s t) : False := by
  have h1 := h.read
  have h2 := h'.read
  unfold apR at h1
  unfold tgsR at h2
  simp only [Prod.mk.injEq] at h1 h2
  have er := h1.2.1.symm.trans h2.2.1
  have et := h1.2.2.2.2.1.symm.trans h2.2.2.2.2.1
  have ea := h1.2.2.2.2.2.1.symm.trans h2.2.2.2.2.2.1
  subst er et ea
  have := congrArg List.length (h.2.trans h'.2.symm)
  rw [apB_length, tgsB_length] at this
  omega
theorem tgsErr_ne (b : List UInt8) : tgsErr b ≠ 0 := by
  unfold tgsErr
  split
  · decide
  · assumption
theorem apErr_ne (b : List UInt8) : apErr b ≠ 0 := by
  unfold apErr
  split
  · decide
  · assumption
theorem tgsDec_ap {b : List UInt8} {lt mu : Bool} {kv : Int} {r : ByteArray} {tk au : List UInt8} {d : AV} (h : apIs b lt mu kv r tk au) (hd : tgsDec b d) : ∃ e, e ≠ 0 ∧ d = .tup [tgsZ, .raw (.int .i64 e)] := by
  rcases hd with ⟨_, _, _, _, _, _, _, _, _, _, h1, _⟩ | ⟨_, h1⟩
  · exact (tgs_not_ap h h1).elim
  · exact ⟨_, tgsErr_ne b, h1⟩
theorem apDec_tgs {b : List UInt8} {lt mu : Bool} {kv : Int} {r : ByteArray} {tk au : List UInt8} {tm li : Int} {s t : ByteArray} {d : AV} (h : tgsIs b lt mu kv r tk au tm li s t) (hd : apDec b d) : ∃ e, e ≠ 0 ∧ d = .tup [apZ, .raw (.int .i64 e)] := by
  rcases hd with ⟨_, _, _, _, _, _, h1, _⟩ | ⟨_, h1⟩
  · exact (tgs_not_ap h1 h).elim
  · exact ⟨_, apErr_ne b, h1⟩
theorem rlm_size (n : Int) : (rlm n).size ≤ 39 := by
  unfold rlm
  split
  · decide
  · split <;> decide
def long10B (r : ByteArray) (tk au : List UInt8) : Bool := decide ((r.size : Int) > 100) || decide ((tk.length : Int) > 400) || decide ((au.length : Int) > 400)
theorem long10B_false {r : ByteArray} {tk au : List UInt8} (h : long10B r tk au = false) : r.size ≤ 100 ∧ tk.length ≤ 400 ∧ au.length ≤ 400 := by
  unfold long10B at h
  simp only [Bool.or_eq_false_iff, decide_eq_false_iff_not] at h
  omega
set_option maxHeartbeats 4000000 in
theorem apReq_det (xl xm : Bool) (xk xr : Int) (xt xa : List UInt8) (hk : 0 ≤ xk ∧ xk ≤ 255) (hr : 0 ≤ xr ∧ xr ≤ 255) : ∃ d, PC Tryz.prog 28 [.st [.raw (.bool xl), .raw (.bool xm), .raw (.int .u8 xk), .raw (.int .u8 xr), .lst 1 (xt.map byteA), .lst 1 (xa.map byteA)]] d ∧ ∃ tk' au', d = apA xl xm xk (rlm xr) tk' au' ∧ tk'.length ≤ 255 ∧ au'.length ≤ 255 := by
  have w1 : IntKind.i64.wrap xk = xk := wrap_i64 (by omega) (by omega)
  have w2 : IntKind.i64.wrap xr = xr := wrap_i64 (by omega) (by omega)
  have hR := Realm_pure xr hr.1
  obtain ⟨rv, hrv⟩ : ∃ d, d = AV.raw (.string (rlm xr)) := ⟨_, rfl⟩
  have ht : ∀ l : List UInt8, (l.map byteA).take 255 = (l.take 255).map byteA := fun l => List.map_take.symm
  refine ⟨apA xl xm xk (rlm xr) (if (xt.length : Int) > 255 then xt.take 255 else xt) (if (xa.length : Int) > 255 then xa.take 255 else xa), ?_, _, _, rfl, by split <;> (try simp only [List.length_take]) <;> omega, by split <;> (try simp only [List.length_take]) <;> omega⟩
  refine PC.of_ac ?_
  unfold apA
  refine AC.of_body (M := []) Tryz.func28 rfl (by kernel_rfl) (Nat.le_of_ble_eq_true rfl) ?_; simp only [Tryz.results28, Tryz.ntmps28]
  simp (dsimp := false) only [go_sem, ↓reduceIte, Nat.reduceEqDiff, Nat.reduceLT, Nat.reduceAdd, Nat.reduceSub, Nat.reduceMul, Nat.reduceLeDiff, reduceCtorEq, Int.reduceNeg, Int.reduceToNat, Int.reduceLT, Int.reduceLE, Int.reduceGE, Int.reduceGT, Int.reduceEq]
  intro k1 hk1
  refine AW.draw (M := []) [.v, .v, .v, .v, .v, .v, .v, .v, .v, .v, .c (rv), .v, .v, .v, .v, .v, .e, .e] mixed (by kernel_rfl) ?_
  subst hrv
  simp (dsimp := false) only [go_sem, ↓reduceIte, Nat.reduceEqDiff, Nat.reduceLT, Nat.reduceAdd, Nat.reduceSub, Nat.reduceMul, Nat.reduceLeDiff, reduceCtorEq, Int.reduceNeg, Int.reduceToNat, Int.reduceLT, Int.reduceLE, Int.reduceGE, Int.reduceGT, Int.reduceEq, w1, w2]
  refine ⟨VSem.call rfl rfl hR, ?_⟩
  intro k2 hk2
  have q1 := none_ne hk2
  have a1 : ∀ (own : Own) o, (own.set k2 o) k1 = own k1 := fun own o => Own.set_ne _ _ (Ne.symm q1)
  have a2 : ∀ (own : Own) o, (own.set k1 o) k2 = own k2 := fun own o => Own.set_ne _ _ q1
  by_cases h1 : (xt.length : Int) > 255
  · by_cases h2 : (xa.length : Int) > 255
    · rw [if_pos h1, if_pos h2]
      simp (dsimp := false) only [go_sem, ↓reduceIte, Nat.reduceEqDiff, Nat.reduceLT, Nat.reduceAdd, Nat.reduceSub, Nat.reduceMul, Nat.reduceLeDiff, reduceCtorEq, Int.reduceNeg, Int.reduceToNat, Int.reduceLT, Int.reduceLE, Int.reduceGE, Int.reduceGT, Int.reduceEq, h1, h2, a1, a2, ht]
      (try (first | omega | (refine ⟨by omega, ?_⟩; first | omega | rfl | trivial)))
    · rw [if_pos h1, if_neg h2]
      simp (dsimp := false) only [go_sem, ↓reduceIte, Nat.reduceEqDiff, Nat.reduceLT, Nat.reduceAdd, Nat.reduceSub, Nat.reduceMul, Nat.reduceLeDiff, reduceCtorEq, Int.reduceNeg, Int.reduceToNat, Int.reduceLT, Int.reduceLE, Int.reduceGE, Int.reduceGT, Int.reduceEq, h1, h2, a1, a2, ht]
      (try (first | omega | (refine ⟨by omega, ?_⟩; first | omega | rfl | trivial)))
  · by_cases h2 : (xa.length : Int) > 255
    · rw [if_neg h1, if_pos h2]
      simp (dsimp := false) only [go_sem, ↓reduceIte, Nat.reduceEqDiff, Nat.reduceLT, Nat.reduceAdd, Nat.reduceSub, Nat.reduceMul, Nat.reduceLeDiff, reduceCtorEq, Int.reduceNeg, Int.reduceToNat, Int.reduceLT, Int.reduceLE, Int.reduceGE, Int.reduceGT, Int.reduceEq, h1, h2, a1, a2, ht]
      (try (first | omega | (refine ⟨by omega, ?_⟩; first | omega | rfl | trivial)))
    · rw [if_neg h1, if_neg h2]
      simp (dsimp := false) only [go_sem, ↓reduceIte, Nat.reduceEqDiff, Nat.reduceLT, Nat.reduceAdd, Nat.reduceSub, Nat.reduceMul, Nat.reduceLeDiff, reduceCtorEq, Int.reduceNeg, Int.reduceToNat, Int.reduceLT, Int.reduceLE, Int.reduceGE, Int.reduceGT, Int.reduceEq, h1, h2, a1, a2, ht]
theorem SameAp_refl (lt mu : Bool) (kv : Int) (r : ByteArray) (tk au : List UInt8) : PC Tryz.prog 35 [apA lt mu kv r tk au, apA lt mu kv r tk au] (.raw (.bool true)) := by
  refine PC.of_ac ?_
  unfold apA
  refine AC.of_body (M := []) Tryz.func35 rfl (by kernel_rfl) (Nat.le_of_ble_eq_true rfl) ?_; simp only [Tryz.results35, Tryz.ntmps35]
  simp (dsimp := false) only [go_sem, ↓reduceIte, Nat.reduceEqDiff, Nat.reduceLT, Nat.reduceAdd, Nat.reduceSub, Nat.reduceMul, Nat.reduceLeDiff, reduceCtorEq, Int.reduceNeg, Int.reduceToNat, Int.reduceLT, Int.reduceLE, Int.reduceGE, Int.reduceGT, Int.reduceEq, bytes_eq]
theorem SameTgs_refl (lt mu : Bool) (kv : Int) (r : ByteArray) (tk au : List UInt8) (tm li : Int) (s t : ByteArray) : PC Tryz.prog 38 [tgsA lt mu kv r tk au tm li s t, tgsA lt mu kv r tk au tm li s t] (.raw (.bool true)) := by
  refine PC.of_ac ?_
  have h := SameAp_refl lt mu kv r tk au
  unfold apA at h
  unfold tgsA
  refine AC.of_body (M := []) Tryz.func38 rfl (by kernel_rfl) (Nat.le_of_ble_eq_true rfl) ?_; simp only [Tryz.results38, Tryz.ntmps38]
  simp (dsimp := false) only [go_sem, ↓reduceIte, Nat.reduceEqDiff, Nat.reduceLT, Nat.reduceAdd, Nat.reduceSub, Nat.reduceMul, Nat.reduceLeDiff, reduceCtorEq, Int.reduceNeg, Int.reduceToNat, Int.reduceLT, Int.reduceLE, Int.reduceGE, Int.reduceGT, Int.reduceEq]
  refine ACs.pure h ?_
  simp (dsimp := false) only [go_sem, ↓reduceIte, Nat.reduceEqDiff, Nat.reduceLT, Nat.reduceAdd, Nat.reduceSub, Nat.reduceMul, Nat.reduceLeDiff, reduceCtorEq, Int.reduceNeg, Int.reduceToNat, Int.reduceLT, Int.reduceLE, Int.reduceGE, Int.reduceGT, Int.reduceEq]
end Go.Proofs.YtghnigbihllnmaaGreat.Fn
