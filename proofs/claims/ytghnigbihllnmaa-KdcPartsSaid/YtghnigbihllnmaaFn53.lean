/- The law on the secret parts of replies. -/
import Derived.Test.YtghnigbihllnmaaFn52
import Derived.Test.YtghnigbihllnmaaFn46
import Derived.Test.YtghnigbihllnmaaFn40
import Derived.Test.YtghnigbihllnmaaFn33
set_option linter.unusedVariables false
set_option linter.unusedSimpArgs false
namespace Go.Proofs.Ytghnigbihllnmaa.Fn
open Go Hl Sp Ty
set_option maxRecDepth 100000
theorem prtB_length (lt : Bool) (k : Int) (n i r : ByteArray) (li kv : Int) (x : List UInt8) (tm : Int) : (prtB lt k n i r li kv x tm).length ≤ n.size + i.size + r.size + x.length + 40 := by
  have h := padB_length ([u8 (flagZ lt)] ++ prtF lt k n i r li kv x tm)
  rw [List.length_append, prtF_length] at h
  unfold prtB
  simp only [List.length_singleton] at h
  omega
theorem prtB_short {lt : Bool} {k : Int} {n i r : ByteArray} {li kv : Int} {x : List UInt8} {tm : Int} (hc : prtChk lt k n i r li kv x tm = 0) : (prtB lt k n i r li kv x tm).length ≤ 392 := by
  obtain ⟨_, h2, _, _, _, h6⟩ := prtChk_ok hc
  have hv := validB_size h2
  obtain ⟨m, hm⟩ : ∃ m, ([u8 (flagZ lt)] ++ prtF lt k n i r li kv x tm).length = m := ⟨_, rfl⟩
  have hm' := hm
  rw [List.length_append, prtF_length] at hm'
  simp only [List.length_singleton] at hm'
  rw [prtB, padB, List.length_append, List.length_replicate, hm, padN]
  omega
theorem part9_det (bs x : List UInt8) (hb : bs.length ≤ 140737488355328) : ∃ d, PC Try.prog 36 [.lst 1 (bs.map byteA), .lst 1 (x.map byteA)] d ∧ ∃ k n i r li kv x' tm, d = prtA false k n i r li kv x' tm ∧ (0 ≤ k ∧ k < 18446744073709551616) ∧ n.size ≤ 39 ∧ i.size ≤ 39 ∧ r.size ≤ 39 ∧ x'.length ≤ 255 := by
  obtain ⟨ad_, hA, lt', n, i, r, ad, k, li, is, s, t, hd, hok⟩ := Ticket_det bs hb
  have hz := hok.size
  have hkr := hok.2.2.2.2.1
  have ht : (x.map byteA).take 255 = (x.take 255).map byteA := List.map_take.symm
  refine ⟨prtA false k n i r li li (if (x.length : Int) > 255 then x.take 255 else x) is, ?_, k, n, i, r, li, li, _, is, rfl, hkr, by omega, by omega, by omega, by split <;> (try simp only [List.length_take]) <;> omega⟩
  subst hd
  refine PC.of_ac ?_
  unfold ticketA at hA
  unfold prtA
  refine AC.of_body (M := []) Try.func36 rfl (by kernel_rfl) (Nat.le_of_ble_eq_true rfl) ?_; simp only [Try.results36, Try.ntmps36]
  simp (dsimp := false) only [go_sem, ↓reduceIte, Nat.reduceEqDiff, Nat.reduceLT, Nat.reduceAdd, Nat.reduceSub, Nat.reduceMul, Nat.reduceLeDiff, reduceCtorEq, Int.reduceNeg, Int.reduceToNat, Int.reduceLT, Int.reduceLE, Int.reduceGE, Int.reduceGT, Int.reduceEq]
  intro k1 hk1
  refine ACs.pure hA ?_
  simp (dsimp := false) only [go_sem, ↓reduceIte, Nat.reduceEqDiff, Nat.reduceLT, Nat.reduceAdd, Nat.reduceSub, Nat.reduceMul, Nat.reduceLeDiff, reduceCtorEq, Int.reduceNeg, Int.reduceToNat, Int.reduceLT, Int.reduceLE, Int.reduceGE, Int.reduceGT, Int.reduceEq]
  intro k2 hk2
  have q1 := none_ne hk2
  have a1 : ∀ (own : Own) o, (own.set k2 o) k1 = own k1 := fun own o => Own.set_ne _ _ (Ne.symm q1)
  have a2 : ∀ (own : Own) o, (own.set k1 o) k2 = own k2 := fun own o => Own.set_ne _ _ q1
  by_cases h1 : (x.length : Int) > 255
  · rw [if_pos h1]
    simp (dsimp := false) only [go_sem, ↓reduceIte, Nat.reduceEqDiff, Nat.reduceLT, Nat.reduceAdd, Nat.reduceSub, Nat.reduceMul, Nat.reduceLeDiff, reduceCtorEq, Int.reduceNeg, Int.reduceToNat, Int.reduceLT, Int.reduceLE, Int.reduceGE, Int.reduceGT, Int.reduceEq, h1, a1, a2, ht]
    (try (first | omega | (refine ⟨by omega, ?_⟩; first | omega | rfl | trivial)))
  · rw [if_neg h1]
    simp (dsimp := false) only [go_sem, ↓reduceIte, Nat.reduceEqDiff, Nat.reduceLT, Nat.reduceAdd, Nat.reduceSub, Nat.reduceMul, Nat.reduceLeDiff, reduceCtorEq, Int.reduceNeg, Int.reduceToNat, Int.reduceLT, Int.reduceLE, Int.reduceGE, Int.reduceGT, Int.reduceEq, h1, a1, a2]
theorem SamePart_refl (k : Int) (n i r : ByteArray) (li kv : Int) (x : List UInt8) (tm : Int) : PC Try.prog 40 [prtA false k n i r li kv x tm, prtA false k n i r li kv x tm] (.raw (.bool true)) := by
  refine PC.of_ac ?_
  unfold prtA
  refine AC.of_body (M := []) Try.func40 rfl (by kernel_rfl) (Nat.le_of_ble_eq_true rfl) ?_; simp only [Try.results40, Try.ntmps40]
  simp (dsimp := false) only [go_sem, ↓reduceIte, Nat.reduceEqDiff, Nat.reduceLT, Nat.reduceAdd, Nat.reduceSub, Nat.reduceMul, Nat.reduceLeDiff, reduceCtorEq, Int.reduceNeg, Int.reduceToNat, Int.reduceLT, Int.reduceLE, Int.reduceGE, Int.reduceGT, Int.reduceEq, bytes_eq]
set_option maxHeartbeats 8000000 in
theorem KdcParts_pc (k : Int) (n i r : ByteArray) (li kv : Int) (x : List UInt8) (tm : Int) (bs ticket : List UInt8) (little : Bool) (hk : 0 ≤ k ∧ k < 18446744073709551616) :
    PC Try.prog 7 [prtA false k n i r li kv x tm, .lst 1 (bs.map byteA), .lst 1 (ticket.map byteA), .raw (.bool little)] (.raw (.bool true)) := by
  refine PC.of_ac ?_
  have hlong := long9_pure [n, i, r] (by simp)
  simp only [List.map_cons, List.map_nil, strA] at hlong
  unfold prtA
  refine AC.of_body (M := []) Try.func7 rfl (by kernel_rfl) (Nat.le_of_ble_eq_true rfl) ?_; simp only [Try.results7, Try.ntmps7]
  simp (dsimp := false) only [go_sem, ↓reduceIte, Nat.reduceEqDiff, Nat.reduceLT, Nat.reduceAdd, Nat.reduceSub, Nat.reduceMul, Nat.reduceLeDiff, reduceCtorEq, Int.reduceNeg, Int.reduceToNat, Int.reduceLT, Int.reduceLE, Int.reduceGE, Int.reduceGT, Int.reduceEq]
  refine ACs.pure awake9_pure ?_
  simp (dsimp := false) only [go_sem, ↓reduceIte, Nat.reduceEqDiff, Nat.reduceLT, Nat.reduceAdd, Nat.reduceSub, Nat.reduceMul, Nat.reduceLeDiff, reduceCtorEq, Int.reduceNeg, Int.reduceToNat, Int.reduceLT, Int.reduceLE, Int.reduceGE, Int.reduceGT, Int.reduceEq]
  refine ACs.pure hlong ?_
  rcases Bool.eq_false_or_eq_true (long9B [n, i, r]) with hl | hl
  · simp (dsimp := false) only [go_sem, ↓reduceIte, Nat.reduceEqDiff, Nat.reduceLT, Nat.reduceAdd, Nat.reduceSub, Nat.reduceMul, Nat.reduceLeDiff, reduceCtorEq, Int.reduceNeg, Int.reduceToNat, Int.reduceLT, Int.reduceLE, Int.reduceGE, Int.reduceGT, Int.reduceEq, hl]
  by_cases h2 : (bs.length : Int) > 40
  · simp (dsimp := false) only [go_sem, ↓reduceIte, Nat.reduceEqDiff, Nat.reduceLT, Nat.reduceAdd, Nat.reduceSub, Nat.reduceMul, Nat.reduceLeDiff, reduceCtorEq, Int.reduceNeg, Int.reduceToNat, Int.reduceLT, Int.reduceLE, Int.reduceGE, Int.reduceGT, Int.reduceEq, hl, h2]
  by_cases h3 : (x.length : Int) > 400
  · simp (dsimp := false) only [go_sem, ↓reduceIte, Nat.reduceEqDiff, Nat.reduceLT, Nat.reduceAdd, Nat.reduceSub, Nat.reduceMul, Nat.reduceLeDiff, reduceCtorEq, Int.reduceNeg, Int.reduceToNat, Int.reduceLT, Int.reduceLE, Int.reduceGE, Int.reduceGT, Int.reduceEq, hl, h2, h3]
  simp (dsimp := false) only [go_sem, ↓reduceIte, Nat.reduceEqDiff, Nat.reduceLT, Nat.reduceAdd, Nat.reduceSub, Nat.reduceMul, Nat.reduceLeDiff, reduceCtorEq, Int.reduceNeg, Int.reduceToNat, Int.reduceLT, Int.reduceLE, Int.reduceGE, Int.reduceGT, Int.reduceEq, hl, h2, h3]
  have hz' : n.size ≤ 100 ∧ i.size ≤ 100 ∧ r.size ≤ 100 := by
    simp only [long9B, List.any_cons, List.any_nil, Bool.or_eq_false_iff, decide_eq_false_iff_not] at hl
    omega
  obtain ⟨ad_, hA, k', n', i', r', li', kv', x', tm', hd, hn'⟩ := part9_det bs ticket (by omega)
  unfold prtA at hd
  refine AW.loopJ (M := []) (X := Nat) (fun j => ⟨109, tmL [(1, .lst 1 (bs.map byteA)), (2, .lst 1 (ticket.map byteA)), (3, .raw (.bool little)), (4, .ref (.st [.raw (.int .u64 k), .raw (.string n), .raw (.string i), .raw (.string r), .raw (.int .i64 li), .raw (.int .i64 kv), .lst 1 (x.map byteA), .raw (.int .i64 tm)])), (9, .raw (.int .i64 j))], noOwn⟩)
    (fun j => j ≤ 2) (fun j => 2 - j) 0 (by decide) ?_ ?_
  · (refine Ghost.of ?_ (fun _ _ h => by cases h); (repeat' (first | exact all_nil | refine all_cons ?_ ?_)) <;> (first | (simp (dsimp := false) only [go_sem, ↓reduceIte, Nat.reduceEqDiff, Nat.reduceLT, Nat.reduceAdd, Nat.reduceSub, Nat.reduceMul, Nat.reduceLeDiff, reduceCtorEq, Int.reduceNeg, Int.reduceToNat, Int.reduceLT, Int.reduceLE, Int.reduceGE, Int.reduceGT, Int.reduceEq]; done) | (simp (dsimp := false) only [go_sem, ↓reduceIte, Nat.reduceEqDiff, Nat.reduceLT, Nat.reduceAdd, Nat.reduceSub, Nat.reduceMul, Nat.reduceLeDiff, reduceCtorEq, Int.reduceNeg, Int.reduceToNat, Int.reduceLT, Int.reduceLE, Int.reduceGE, Int.reduceGT, Int.reduceEq]; rfl)))
  intro j hj
  by_cases hj2 : (j : Int) < 2
  · have w1 : IntKind.i64.wrap ((j : Int) + 1) = ((j + 1 : Nat) : Int) := by rw [wrap_i64 (by omega) (by omega)]; omega
    obtain ⟨KY, N, I, R, LI, KV, X, TM, hX, hkk, hN⟩ : ∃ (KY : Int) (N I R : ByteArray) (LI KV : Int) (X : List UInt8) (TM : Int), [AV.st [.raw (.int .u64 k), .raw (.string n), .raw (.string i), .raw (.string r), .raw (.int .i64 li), .raw (.int .i64 kv), .lst 1 (x.map byteA), .raw (.int .i64 tm)], AV.st [.raw (.int .u64 k'), .raw (.string n'), .raw (.string i'), .raw (.string r'), .raw (.int .i64 li'), .raw (.int .i64 kv'), .lst 1 (x'.map byteA), .raw (.int .i64 tm')]].getD j .any = AV.st [.raw (.int .u64 KY), .raw (.string N), .raw (.string I), .raw (.string R), .raw (.int .i64 LI), .raw (.int .i64 KV), .lst 1 (X.map byteA), .raw (.int .i64 TM)] ∧ (0 ≤ KY ∧ KY < 18446744073709551616) ∧ N.size ≤ 100 ∧ I.size ≤ 100 ∧ R.size ≤ 100 ∧ X.length ≤ 1100 := by
      match j, (show j < 2 by omega) with
      | 0, _ => exact ⟨_, _, _, _, _, _, _, _, rfl, hk, by omega, by omega, by omega, by omega⟩
      | 1, _ => exact ⟨_, _, _, _, _, _, _, _, rfl, hn'.1, by omega, by omega, by omega, by omega⟩
    have hE1 := prtEncode_pure little KY N I R LI KV X TM (by omega) (by omega) (by omega) (by omega) (by omega) (by omega)
    have hE2 := rprtEncode_pure little KY N I R LI KV X TM (by omega) (by omega) (by omega) (by omega) (by omega) (by omega)
    have hbl := prtB_length little KY N I R LI KV X TM
    have hbs : prtChk little KY N I R LI KV X TM = 0 → (prtB little KY N I R LI KV X TM).length ≤ 392 := fun h => prtB_short h
    have hdc : ∀ d, prtChk little KY N I R LI KV X TM = 0 → prtDec (prtB little KY N I R LI KV X TM) little d → d = .tup [prtA false KY N I R LI KV X TM, .raw (.int .i64 0)] := fun d h0 h => h.of ⟨⟨h0, hkk.1, hkk.2⟩, rfl⟩
    have hdc2 : ∀ d, prtChk little KY N I R LI KV X TM = 0 → prtDec (prtB little KY N I R LI KV X TM) (!little) d → d = .tup [prtZ, .raw (.int .i64 100)] := fun d h0 h => h.unique (.inr ⟨fun _ _ _ _ _ _ _ _ h' => prtIs.not (lt := little) (k := KY) (n := N) (i := I) (r := R) (li := LI) (kv := KV) (x := X) (tm := TM) ⟨⟨h0, hkk.1, hkk.2⟩, rfl⟩ h', rfl⟩)
    have hS := SamePart_refl KY N I R LI KV X TM
    unfold prtA prtE at hE1 hE2
    unfold prtA at hS
    obtain ⟨B, hB⟩ : ∃ B, prtB little KY N I R LI KV X TM = B := ⟨_, rfl⟩
    rw [hB] at hE1 hE2 hbl hdc hdc2 hbs
    obtain ⟨E, hE⟩ : ∃ E, prtChk little KY N I R LI KV X TM = E := ⟨_, rfl⟩
    rw [hE] at hE1 hE2 hdc hdc2 hbs
    simp (dsimp := false) only [go_sem, ↓reduceIte, Nat.reduceEqDiff, Nat.reduceLT, Nat.reduceAdd, Nat.reduceSub, Nat.reduceMul, Nat.reduceLeDiff, reduceCtorEq, Int.reduceNeg, Int.reduceToNat, Int.reduceLT, Int.reduceLE, Int.reduceGE, Int.reduceGT, Int.reduceEq, hj2]
    refine AW.draw (M := []) [.v, .v, .v, .c (ad_), .v, .v, .v, .v, .e, .e] mixed (by kernel_rfl) ?_
    subst hd
    simp (dsimp := false) only [go_sem, ↓reduceIte, Nat.reduceEqDiff, Nat.reduceLT, Nat.reduceAdd, Nat.reduceSub, Nat.reduceMul, Nat.reduceLeDiff, reduceCtorEq, Int.reduceNeg, Int.reduceToNat, Int.reduceLT, Int.reduceLE, Int.reduceGE, Int.reduceGT, Int.reduceEq, hX]
    refine ⟨VSem.call rfl rfl hA, ?_⟩
    (try refine ⟨by omega, ?_⟩)
    intro k1 hk1
    refine ACs.pure hE1 ?_
    simp (dsimp := false) only [go_sem, ↓reduceIte, Nat.reduceEqDiff, Nat.reduceLT, Nat.reduceAdd, Nat.reduceSub, Nat.reduceMul, Nat.reduceLeDiff, reduceCtorEq, Int.reduceNeg, Int.reduceToNat, Int.reduceLT, Int.reduceLE, Int.reduceGE, Int.reduceGT, Int.reduceEq]
    refine ACs.pure hE2 ?_
    by_cases h0 : E = 0
    · rw [if_pos h0]
      have h392 : ¬ ((B.length : Int) > 392) := by have := hbs h0; omega
      simp (dsimp := false) only [go_sem, ↓reduceIte, Nat.reduceEqDiff, Nat.reduceLT, Nat.reduceAdd, Nat.reduceSub, Nat.reduceMul, Nat.reduceLeDiff, reduceCtorEq, Int.reduceNeg, Int.reduceToNat, Int.reduceLT, Int.reduceLE, Int.reduceGE, Int.reduceGT, Int.reduceEq, h0, bytes_eq, h392]
      refine ACs.pn (prtDecode_pn B little (by omega)) ?_
      intro d hd
      have hd := hdc d h0 hd
      subst hd
      unfold prtA
      simp (dsimp := false) only [go_sem, ↓reduceIte, Nat.reduceEqDiff, Nat.reduceLT, Nat.reduceAdd, Nat.reduceSub, Nat.reduceMul, Nat.reduceLeDiff, reduceCtorEq, Int.reduceNeg, Int.reduceToNat, Int.reduceLT, Int.reduceLE, Int.reduceGE, Int.reduceGT, Int.reduceEq]
      intro k2 hk2
      refine ACs.pn (prtDecode_pn B (!little) (by omega)) ?_
      intro d hd
      have hd := hdc2 d h0 hd
      subst hd
      unfold prtZ
      simp (dsimp := false) only [go_sem, ↓reduceIte, Nat.reduceEqDiff, Nat.reduceLT, Nat.reduceAdd, Nat.reduceSub, Nat.reduceMul, Nat.reduceLeDiff, reduceCtorEq, Int.reduceNeg, Int.reduceToNat, Int.reduceLT, Int.reduceLE, Int.reduceGE, Int.reduceGT, Int.reduceEq]
      intro k3 hk3
      have q1 := none_ne hk2
      have q2 := none_ne hk3
      rw [Own.set_ne _ _ q2] at hk3
      have q3 := none_ne hk3
      have a1 : ∀ (own : Own) o, (own.set k2 o) k1 = own k1 := fun own o => Own.set_ne _ _ (Ne.symm q1)
      have a2 : ∀ (own : Own) o, (own.set k1 o) k2 = own k2 := fun own o => Own.set_ne _ _ q1
      have a3 : ∀ (own : Own) o, (own.set k3 o) k2 = own k2 := fun own o => Own.set_ne _ _ (Ne.symm q2)
      have a4 : ∀ (own : Own) o, (own.set k3 o) k1 = own k1 := fun own o => Own.set_ne _ _ (Ne.symm q3)
      simp (dsimp := false) only [go_sem, ↓reduceIte, Nat.reduceEqDiff, Nat.reduceLT, Nat.reduceAdd, Nat.reduceSub, Nat.reduceMul, Nat.reduceLeDiff, reduceCtorEq, Int.reduceNeg, Int.reduceToNat, Int.reduceLT, Int.reduceLE, Int.reduceGE, Int.reduceGT, Int.reduceEq, a1, a2, a3, a4]
      refine ACs.pure hS ?_
      simp (dsimp := false) only [go_sem, ↓reduceIte, Nat.reduceEqDiff, Nat.reduceLT, Nat.reduceAdd, Nat.reduceSub, Nat.reduceMul, Nat.reduceLeDiff, reduceCtorEq, Int.reduceNeg, Int.reduceToNat, Int.reduceLT, Int.reduceLE, Int.reduceGE, Int.reduceGT, Int.reduceEq, w1]
      refine ⟨j + 1, by omega, ?_, by omega⟩
      (refine Ghost.of ?_ (fun _ _ h => by cases h); (repeat' (first | exact all_nil | refine all_cons ?_ ?_)) <;> (first | (simp (dsimp := false) only [go_sem, ↓reduceIte, Nat.reduceEqDiff, Nat.reduceLT, Nat.reduceAdd, Nat.reduceSub, Nat.reduceMul, Nat.reduceLeDiff, reduceCtorEq, Int.reduceNeg, Int.reduceToNat, Int.reduceLT, Int.reduceLE, Int.reduceGE, Int.reduceGT, Int.reduceEq]; done) | (simp (dsimp := false) only [go_sem, ↓reduceIte, Nat.reduceEqDiff, Nat.reduceLT, Nat.reduceAdd, Nat.reduceSub, Nat.reduceMul, Nat.reduceLeDiff, reduceCtorEq, Int.reduceNeg, Int.reduceToNat, Int.reduceLT, Int.reduceLE, Int.reduceGE, Int.reduceGT, Int.reduceEq]; rfl)))
    · rw [if_neg h0]
      have hbn : bytesOf [] = some [] := rfl
      simp (dsimp := false) only [go_sem, ↓reduceIte, Nat.reduceEqDiff, Nat.reduceLT, Nat.reduceAdd, Nat.reduceSub, Nat.reduceMul, Nat.reduceLeDiff, reduceCtorEq, Int.reduceNeg, Int.reduceToNat, Int.reduceLT, Int.reduceLE, Int.reduceGE, Int.reduceGT, Int.reduceEq, h0, bytes_eq, hbn, w1]
      refine ⟨j + 1, by omega, ?_, by omega⟩
      (refine Ghost.of ?_ (fun _ _ h => by cases h); (repeat' (first | exact all_nil | refine all_cons ?_ ?_)) <;> (first | (simp (dsimp := false) only [go_sem, ↓reduceIte, Nat.reduceEqDiff, Nat.reduceLT, Nat.reduceAdd, Nat.reduceSub, Nat.reduceMul, Nat.reduceLeDiff, reduceCtorEq, Int.reduceNeg, Int.reduceToNat, Int.reduceLT, Int.reduceLE, Int.reduceGE, Int.reduceGT, Int.reduceEq]; done) | (simp (dsimp := false) only [go_sem, ↓reduceIte, Nat.reduceEqDiff, Nat.reduceLT, Nat.reduceAdd, Nat.reduceSub, Nat.reduceMul, Nat.reduceLeDiff, reduceCtorEq, Int.reduceNeg, Int.reduceToNat, Int.reduceLT, Int.reduceLE, Int.reduceGE, Int.reduceGT, Int.reduceEq]; rfl)))
  · simp (dsimp := false) only [go_sem, ↓reduceIte, Nat.reduceEqDiff, Nat.reduceLT, Nat.reduceAdd, Nat.reduceSub, Nat.reduceMul, Nat.reduceLeDiff, reduceCtorEq, Int.reduceNeg, Int.reduceToNat, Int.reduceLT, Int.reduceLE, Int.reduceGE, Int.reduceGT, Int.reduceEq, hj2]
end Go.Proofs.Ytghnigbihllnmaa.Fn
