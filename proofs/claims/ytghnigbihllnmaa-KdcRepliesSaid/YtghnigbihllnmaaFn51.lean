/- The law on replies of a KDC. -/
import Derived.Test.YtghnigbihllnmaaFn50
import Derived.Test.YtghnigbihllnmaaFn46
import Derived.Test.YtghnigbihllnmaaFn40
import Derived.Test.YtghnigbihllnmaaFn33
set_option linter.unusedVariables false
set_option linter.unusedSimpArgs false
namespace Go.Proofs.Ytghnigbihllnmaa.Fn
open Go Hl Sp Ty
set_option maxRecDepth 100000
theorem repB_length (lt : Bool) (n i r : ByteArray) (tm ex kv : Int) (x : List UInt8) : (repB lt n i r tm ex kv x).length ≤ n.size + i.size + r.size + x.length + 20 := by
  rw [repB, List.length_append, hdB_length, repF_length]
  omega
theorem reply9_det (bs x : List UInt8) (lt : Bool) (hb : bs.length ≤ 140737488355328) : ∃ d, PC Try.prog 31 [.lst 1 (bs.map byteA), .lst 1 (x.map byteA), .raw (.bool lt)] d ∧ ∃ n i r tm ex kv, d = repA lt n i r tm ex kv x ∧ n.size ≤ 39 ∧ i.size ≤ 39 ∧ r.size ≤ 39 := by
  obtain ⟨ad_, hA, lt', n, i, r, ad, k, li, is, s, t, hd, hok⟩ := Ticket_det bs hb
  have hz := hok.size
  refine ⟨repA lt n i r is ad li x, ?_, n, i, r, is, ad, li, rfl, by omega, by omega, by omega⟩
  subst hd
  refine PC.of_ac ?_
  unfold ticketA at hA
  unfold repA
  refine AC.of_body (M := []) Try.func31 rfl (by kernel_rfl) (Nat.le_of_ble_eq_true rfl) ?_; simp only [Try.results31, Try.ntmps31]
  simp (dsimp := false) only [go_sem, ↓reduceIte, Nat.reduceEqDiff, Nat.reduceLT, Nat.reduceAdd, Nat.reduceSub, Nat.reduceMul, Nat.reduceLeDiff, reduceCtorEq, Int.reduceNeg, Int.reduceToNat, Int.reduceLT, Int.reduceLE, Int.reduceGE, Int.reduceGT, Int.reduceEq]
  intro k1 hk1
  refine ACs.pure hA ?_
  simp (dsimp := false) only [go_sem, ↓reduceIte, Nat.reduceEqDiff, Nat.reduceLT, Nat.reduceAdd, Nat.reduceSub, Nat.reduceMul, Nat.reduceLeDiff, reduceCtorEq, Int.reduceNeg, Int.reduceToNat, Int.reduceLT, Int.reduceLE, Int.reduceGE, Int.reduceGT, Int.reduceEq]
  intro k2 hk2
  have q1 := none_ne hk2
  have a1 : ∀ (own : Own) o, (own.set k2 o) k1 = own k1 := fun own o => Own.set_ne _ _ (Ne.symm q1)
  have a2 : ∀ (own : Own) o, (own.set k1 o) k2 = own k2 := fun own o => Own.set_ne _ _ q1
  (try simp (dsimp := false) only [go_sem, ↓reduceIte, Nat.reduceEqDiff, Nat.reduceLT, Nat.reduceAdd, Nat.reduceSub, Nat.reduceMul, Nat.reduceLeDiff, reduceCtorEq, Int.reduceNeg, Int.reduceToNat, Int.reduceLT, Int.reduceLE, Int.reduceGE, Int.reduceGT, Int.reduceEq, a1, a2])
theorem SameReply_refl (lt : Bool) (n i r : ByteArray) (tm ex kv : Int) (x : List UInt8) : PC Try.prog 35 [repA lt n i r tm ex kv x, repA lt n i r tm ex kv x] (.raw (.bool true)) := by
  refine PC.of_ac ?_
  unfold repA
  refine AC.of_body (M := []) Try.func35 rfl (by kernel_rfl) (Nat.le_of_ble_eq_true rfl) ?_; simp only [Try.results35, Try.ntmps35]
  simp (dsimp := false) only [go_sem, ↓reduceIte, Nat.reduceEqDiff, Nat.reduceLT, Nat.reduceAdd, Nat.reduceSub, Nat.reduceMul, Nat.reduceLeDiff, reduceCtorEq, Int.reduceNeg, Int.reduceToNat, Int.reduceLT, Int.reduceLE, Int.reduceGE, Int.reduceGT, Int.reduceEq, bytes_eq]
set_option maxHeartbeats 8000000 in
theorem KdcReplies_pc (lt : Bool) (n i r : ByteArray) (tm ex kv : Int) (x bs sealed : List UInt8) (little : Bool) (size : Int) (hs : 0 ≤ size ∧ size ≤ 65535) :
    PC Try.prog 6 [repA lt n i r tm ex kv x, .lst 1 (bs.map byteA), .lst 1 (sealed.map byteA), .raw (.bool little), .raw (.int .u16 size)] (.raw (.bool true)) := by
  refine PC.of_ac ?_
  have hlong := long9_pure [n, i, r] (by simp)
  simp only [List.map_cons, List.map_nil, strA] at hlong
  have ws : IntKind.i64.wrap size = size := wrap_i64 (by omega) (by omega)
  obtain ⟨m, hm⟩ : ∃ m : Nat, 1010 + size.tmod 4 = m := ⟨(1010 + size.tmod 4).toNat, by rw [Int.tmod_eq_emod_of_nonneg hs.1]; omega⟩
  have hm' : m ≤ 1013 := by rw [Int.tmod_eq_emod_of_nonneg hs.1] at hm; omega
  have wm : IntKind.i64.wrap (m : Int) = m := wrap_i64 (by omega) (by omega)
  obtain ⟨zs, hzs⟩ : ∃ zs, List.replicate m (0 : UInt8) = zs := ⟨_, rfl⟩
  have hz : List.replicate m (AV.raw (.int .u8 0)) = zs.map byteA := by rw [← hzs]; exact zero_bytes m
  have hzl : zs.length ≤ 1013 := by rw [← hzs, List.length_replicate]; exact hm'
  unfold repA
  refine AC.of_body (M := []) Try.func6 rfl (by kernel_rfl) (Nat.le_of_ble_eq_true rfl) ?_; simp only [Try.results6, Try.ntmps6]
  simp (dsimp := false) only [go_sem, ↓reduceIte, Nat.reduceEqDiff, Nat.reduceLT, Nat.reduceAdd, Nat.reduceSub, Nat.reduceMul, Nat.reduceLeDiff, reduceCtorEq, Int.reduceNeg, Int.reduceToNat, Int.reduceLT, Int.reduceLE, Int.reduceGE, Int.reduceGT, Int.reduceEq]
  refine ACs.pure awake9_pure ?_
  simp (dsimp := false) only [go_sem, ↓reduceIte, Nat.reduceEqDiff, Nat.reduceLT, Nat.reduceAdd, Nat.reduceSub, Nat.reduceMul, Nat.reduceLeDiff, reduceCtorEq, Int.reduceNeg, Int.reduceToNat, Int.reduceLT, Int.reduceLE, Int.reduceGE, Int.reduceGT, Int.reduceEq]
  refine ACs.pure hlong ?_
  rcases Bool.eq_false_or_eq_true (long9B [n, i, r]) with hl | hl
  · simp (dsimp := false) only [go_sem, ↓reduceIte, Nat.reduceEqDiff, Nat.reduceLT, Nat.reduceAdd, Nat.reduceSub, Nat.reduceMul, Nat.reduceLeDiff, reduceCtorEq, Int.reduceNeg, Int.reduceToNat, Int.reduceLT, Int.reduceLE, Int.reduceGE, Int.reduceGT, Int.reduceEq, hl]
  by_cases h2 : (bs.length : Int) > 40
  · simp (dsimp := false) only [go_sem, ↓reduceIte, Nat.reduceEqDiff, Nat.reduceLT, Nat.reduceAdd, Nat.reduceSub, Nat.reduceMul, Nat.reduceLeDiff, reduceCtorEq, Int.reduceNeg, Int.reduceToNat, Int.reduceLT, Int.reduceLE, Int.reduceGE, Int.reduceGT, Int.reduceEq, hl, h2]
  by_cases h3 : (x.length : Int) > 1100
  · simp (dsimp := false) only [go_sem, ↓reduceIte, Nat.reduceEqDiff, Nat.reduceLT, Nat.reduceAdd, Nat.reduceSub, Nat.reduceMul, Nat.reduceLeDiff, reduceCtorEq, Int.reduceNeg, Int.reduceToNat, Int.reduceLT, Int.reduceLE, Int.reduceGE, Int.reduceGT, Int.reduceEq, hl, h2, h3]
  by_cases h4 : (sealed.length : Int) > 900
  · simp (dsimp := false) only [go_sem, ↓reduceIte, Nat.reduceEqDiff, Nat.reduceLT, Nat.reduceAdd, Nat.reduceSub, Nat.reduceMul, Nat.reduceLeDiff, reduceCtorEq, Int.reduceNeg, Int.reduceToNat, Int.reduceLT, Int.reduceLE, Int.reduceGE, Int.reduceGT, Int.reduceEq, hl, h2, h3, h4]
  simp (dsimp := false) only [go_sem, ↓reduceIte, Nat.reduceEqDiff, Nat.reduceLT, Nat.reduceAdd, Nat.reduceSub, Nat.reduceMul, Nat.reduceLeDiff, reduceCtorEq, Int.reduceNeg, Int.reduceToNat, Int.reduceLT, Int.reduceLE, Int.reduceGE, Int.reduceGT, Int.reduceEq, hl, h2, h3, h4, ws, hm, wm]
  have hz' : n.size ≤ 100 ∧ i.size ≤ 100 ∧ r.size ≤ 100 := by
    simp only [long9B, List.any_cons, List.any_nil, Bool.or_eq_false_iff, decide_eq_false_iff_not] at hl
    omega
  obtain ⟨ad_, hA, n', i', r', tm', ex', kv', hd, hn'⟩ := reply9_det bs sealed little (by omega)
  obtain ⟨bd_, hB, n2, i2, r2, tm2, ex2, kv2, hd2, hn2⟩ := reply9_det bs zs little (by omega)
  unfold repA at hd hd2
  refine ⟨by omega, by omega, by omega, by omega, fun k hk => ?_⟩
  simp (dsimp := false) only [go_sem, ↓reduceIte, Nat.reduceEqDiff, Nat.reduceLT, Nat.reduceAdd, Nat.reduceSub, Nat.reduceMul, Nat.reduceLeDiff, reduceCtorEq, Int.reduceNeg, Int.reduceToNat, Int.reduceLT, Int.reduceLE, Int.reduceGE, Int.reduceGT, Int.reduceEq, hz]
  refine ACs.arg (pre := [.lst 1 (bs.map byteA)]) (post := [.raw (.bool little)]) (rowW _ k m m _ zs [] (by rw [List.append_nil]; exact Own.set_same _ _ _) (by rw [← hzs, List.length_replicate]) (by omega) (by omega)) ?_
  refine ACs.pure (by rw [hd2] at hB; exact hB) ?_
  simp (dsimp := false) only [go_sem, ↓reduceIte, Nat.reduceEqDiff, Nat.reduceLT, Nat.reduceAdd, Nat.reduceSub, Nat.reduceMul, Nat.reduceLeDiff, reduceCtorEq, Int.reduceNeg, Int.reduceToNat, Int.reduceLT, Int.reduceLE, Int.reduceGE, Int.reduceGT, Int.reduceEq]
  intro k0 hk0
  refine AW.ghost (Ghost.slot (t := 11) (Weak1.box (k := k0) (d := .st _) (Own.set_same _ _ _) rfl rfl)) ?_
  refine AW.loopJ (M := []) (X := Nat) (fun j => ⟨106, tmL [(1, .lst 1 (bs.map byteA)), (2, .lst 1 (sealed.map byteA)), (3, .raw (.bool little)), (5, .ref (.st [.raw (.bool lt), .raw (.string n), .raw (.string i), .raw (.string r), .raw (.int .i64 tm), .raw (.int .i64 ex), .raw (.int .i64 kv), .lst 1 (x.map byteA)])), (11, .ref (.st [.raw (.bool little), .raw (.string n2), .raw (.string i2), .raw (.string r2), .raw (.int .i64 tm2), .raw (.int .i64 ex2), .raw (.int .i64 kv2), .lst 1 (zs.map byteA)])), (12, .raw (.int .i64 j))], noOwn⟩)
    (fun j => j ≤ 3) (fun j => 3 - j) 0 (by decide) ?_ ?_
  · (refine Ghost.of ?_ (fun _ _ h => by cases h); (repeat' (first | exact all_nil | refine all_cons ?_ ?_)) <;> (first | (simp (dsimp := false) only [go_sem, ↓reduceIte, Nat.reduceEqDiff, Nat.reduceLT, Nat.reduceAdd, Nat.reduceSub, Nat.reduceMul, Nat.reduceLeDiff, reduceCtorEq, Int.reduceNeg, Int.reduceToNat, Int.reduceLT, Int.reduceLE, Int.reduceGE, Int.reduceGT, Int.reduceEq]; done) | (simp (dsimp := false) only [go_sem, ↓reduceIte, Nat.reduceEqDiff, Nat.reduceLT, Nat.reduceAdd, Nat.reduceSub, Nat.reduceMul, Nat.reduceLeDiff, reduceCtorEq, Int.reduceNeg, Int.reduceToNat, Int.reduceLT, Int.reduceLE, Int.reduceGE, Int.reduceGT, Int.reduceEq]; rfl)))
  intro j hj
  by_cases hj2 : (j : Int) < 3
  · have w1 : IntKind.i64.wrap ((j : Int) + 1) = ((j + 1 : Nat) : Int) := by rw [wrap_i64 (by omega) (by omega)]; omega
    obtain ⟨LT, N, I, R, TM, EX, KV, X, hX, hN⟩ : ∃ (LT : Bool) (N I R : ByteArray) (TM EX KV : Int) (X : List UInt8), [AV.st [.raw (.bool lt), .raw (.string n), .raw (.string i), .raw (.string r), .raw (.int .i64 tm), .raw (.int .i64 ex), .raw (.int .i64 kv), .lst 1 (x.map byteA)], AV.st [.raw (.bool little), .raw (.string n'), .raw (.string i'), .raw (.string r'), .raw (.int .i64 tm'), .raw (.int .i64 ex'), .raw (.int .i64 kv'), .lst 1 (sealed.map byteA)], AV.st [.raw (.bool little), .raw (.string n2), .raw (.string i2), .raw (.string r2), .raw (.int .i64 tm2), .raw (.int .i64 ex2), .raw (.int .i64 kv2), .lst 1 (zs.map byteA)]].getD j .any = AV.st [.raw (.bool LT), .raw (.string N), .raw (.string I), .raw (.string R), .raw (.int .i64 TM), .raw (.int .i64 EX), .raw (.int .i64 KV), .lst 1 (X.map byteA)] ∧ N.size ≤ 100 ∧ I.size ≤ 100 ∧ R.size ≤ 100 ∧ X.length ≤ 1100 := by
      match j, (show j < 3 by omega) with
      | 0, _ => exact ⟨_, _, _, _, _, _, _, _, rfl, by omega, by omega, by omega, by omega⟩
      | 1, _ => exact ⟨_, _, _, _, _, _, _, _, rfl, by omega, by omega, by omega, by omega⟩
      | 2, _ => exact ⟨_, _, _, _, _, _, _, _, rfl, by omega, by omega, by omega, by omega⟩
    have hE1 := repEncode_pure LT N I R TM EX KV X (by omega) (by omega) (by omega) (by omega)
    have hE2 := rrepEncode_pure LT N I R TM EX KV X (by omega) (by omega) (by omega) (by omega)
    have hbl := repB_length LT N I R TM EX KV X
    have hdc : ∀ d, repChk LT N I R TM EX KV X = 0 → repDec (repB LT N I R TM EX KV X) d → d = .tup [repA LT N I R TM EX KV X, .raw (.int .i64 0)] := fun d h0 h => h.of ⟨h0, rfl⟩
    have hS := SameReply_refl LT N I R TM EX KV X
    unfold repA repE at hE1 hE2
    unfold repA at hS
    obtain ⟨B, hB⟩ : ∃ B, repB LT N I R TM EX KV X = B := ⟨_, rfl⟩
    rw [hB] at hE1 hE2 hbl hdc
    obtain ⟨E, hE⟩ : ∃ E, repChk LT N I R TM EX KV X = E := ⟨_, rfl⟩
    rw [hE] at hE1 hE2 hdc
    simp (dsimp := false) only [go_sem, ↓reduceIte, Nat.reduceEqDiff, Nat.reduceLT, Nat.reduceAdd, Nat.reduceSub, Nat.reduceMul, Nat.reduceLeDiff, reduceCtorEq, Int.reduceNeg, Int.reduceToNat, Int.reduceLT, Int.reduceLE, Int.reduceGE, Int.reduceGT, Int.reduceEq, hj2]
    refine AW.draw (M := []) [.v, .v, .v, .v, .c (ad_), .v, .v, .v, .v, .v, .e, .e] mixed (by kernel_rfl) ?_
    subst hd
    simp (dsimp := false) only [go_sem, ↓reduceIte, Nat.reduceEqDiff, Nat.reduceLT, Nat.reduceAdd, Nat.reduceSub, Nat.reduceMul, Nat.reduceLeDiff, reduceCtorEq, Int.reduceNeg, Int.reduceToNat, Int.reduceLT, Int.reduceLE, Int.reduceGE, Int.reduceGT, Int.reduceEq, hX]
    refine ⟨VSem.call rfl rfl hA, ?_⟩
    (try refine ⟨by omega, ?_⟩)
    intro k1 hk1
    refine ACs.pure hE1 ?_
    simp (dsimp := false) only [go_sem, ↓reduceIte, Nat.reduceEqDiff, Nat.reduceLT, Nat.reduceAdd, Nat.reduceSub, Nat.reduceMul, Nat.reduceLeDiff, reduceCtorEq, Int.reduceNeg, Int.reduceToNat, Int.reduceLT, Int.reduceLE, Int.reduceGE, Int.reduceGT, Int.reduceEq]
    refine ACs.pure hE2 ?_
    by_cases h0 : E = 0
    · rw [if_pos h0]
      simp (dsimp := false) only [go_sem, ↓reduceIte, Nat.reduceEqDiff, Nat.reduceLT, Nat.reduceAdd, Nat.reduceSub, Nat.reduceMul, Nat.reduceLeDiff, reduceCtorEq, Int.reduceNeg, Int.reduceToNat, Int.reduceLT, Int.reduceLE, Int.reduceGE, Int.reduceGT, Int.reduceEq, h0, bytes_eq]
      refine ACs.pn (repDecode_pn B (by omega)) ?_
      intro d hd
      have hd := hdc d h0 hd
      subst hd
      unfold repA
      simp (dsimp := false) only [go_sem, ↓reduceIte, Nat.reduceEqDiff, Nat.reduceLT, Nat.reduceAdd, Nat.reduceSub, Nat.reduceMul, Nat.reduceLeDiff, reduceCtorEq, Int.reduceNeg, Int.reduceToNat, Int.reduceLT, Int.reduceLE, Int.reduceGE, Int.reduceGT, Int.reduceEq]
      intro k2 hk2
      have q1 := none_ne hk2
      have q2 : ∀ (own : Own) o, (own.set k2 o) k1 = own k1 := fun own o => Own.set_ne _ _ (Ne.symm q1)
      have q3 : ∀ (own : Own) o, (own.set k1 o) k2 = own k2 := fun own o => Own.set_ne _ _ q1
      simp (dsimp := false) only [go_sem, ↓reduceIte, Nat.reduceEqDiff, Nat.reduceLT, Nat.reduceAdd, Nat.reduceSub, Nat.reduceMul, Nat.reduceLeDiff, reduceCtorEq, Int.reduceNeg, Int.reduceToNat, Int.reduceLT, Int.reduceLE, Int.reduceGE, Int.reduceGT, Int.reduceEq, q2, q3]
      refine ACs.pure hS ?_
      simp (dsimp := false) only [go_sem, ↓reduceIte, Nat.reduceEqDiff, Nat.reduceLT, Nat.reduceAdd, Nat.reduceSub, Nat.reduceMul, Nat.reduceLeDiff, reduceCtorEq, Int.reduceNeg, Int.reduceToNat, Int.reduceLT, Int.reduceLE, Int.reduceGE, Int.reduceGT, Int.reduceEq, w1]
      refine ⟨j + 1, by omega, ?_, by omega⟩
      (refine Ghost.of ?_ (fun _ _ h => by cases h); (repeat' (first | exact all_nil | refine all_cons ?_ ?_)) <;> (first | (simp (dsimp := false) only [go_sem, ↓reduceIte, Nat.reduceEqDiff, Nat.reduceLT, Nat.reduceAdd, Nat.reduceSub, Nat.reduceMul, Nat.reduceLeDiff, reduceCtorEq, Int.reduceNeg, Int.reduceToNat, Int.reduceLT, Int.reduceLE, Int.reduceGE, Int.reduceGT, Int.reduceEq]; done) | (simp (dsimp := false) only [go_sem, ↓reduceIte, Nat.reduceEqDiff, Nat.reduceLT, Nat.reduceAdd, Nat.reduceSub, Nat.reduceMul, Nat.reduceLeDiff, reduceCtorEq, Int.reduceNeg, Int.reduceToNat, Int.reduceLT, Int.reduceLE, Int.reduceGE, Int.reduceGT, Int.reduceEq]; rfl)))
    · rw [if_neg h0]
      have hbn : bytesOf [] = some [] := rfl
      simp (dsimp := false) only [go_sem, ↓reduceIte, Nat.reduceEqDiff, Nat.reduceLT, Nat.reduceAdd, Nat.reduceSub, Nat.reduceMul, Nat.reduceLeDiff, reduceCtorEq, Int.reduceNeg, Int.reduceToNat, Int.reduceLT, Int.reduceLE, Int.reduceGE, Int.reduceGT, Int.reduceEq, h0, bytes_eq, hbn, w1]
      refine ⟨j + 1, by omega, ?_, by omega⟩
      (refine Ghost.of ?_ (fun _ _ h => by cases h); (repeat' (first | exact all_nil | refine all_cons ?_ ?_)) <;> (first | (simp (dsimp := false) only [go_sem, ↓reduceIte, Nat.reduceEqDiff, Nat.reduceLT, Nat.reduceAdd, Nat.reduceSub, Nat.reduceMul, Nat.reduceLeDiff, reduceCtorEq, Int.reduceNeg, Int.reduceToNat, Int.reduceLT, Int.reduceLE, Int.reduceGE, Int.reduceGT, Int.reduceEq]; done) | (simp (dsimp := false) only [go_sem, ↓reduceIte, Nat.reduceEqDiff, Nat.reduceLT, Nat.reduceAdd, Nat.reduceSub, Nat.reduceMul, Nat.reduceLeDiff, reduceCtorEq, Int.reduceNeg, Int.reduceToNat, Int.reduceLT, Int.reduceLE, Int.reduceGE, Int.reduceGT, Int.reduceEq]; rfl)))
  · simp (dsimp := false) only [go_sem, ↓reduceIte, Nat.reduceEqDiff, Nat.reduceLT, Nat.reduceAdd, Nat.reduceSub, Nat.reduceMul, Nat.reduceLeDiff, reduceCtorEq, Int.reduceNeg, Int.reduceToNat, Int.reduceLT, Int.reduceLE, Int.reduceGE, Int.reduceGT, Int.reduceEq, hj2]
end Go.Proofs.Ytghnigbihllnmaa.Fn
