/- The law on error replies. -/
import Derived.Test.YtghnigbihllnmaaFn41
import Derived.Test.YtghnigbihllnmaaFn40
import Derived.Test.YtghnigbihllnmaaFn11
set_option linter.unusedVariables false
set_option linter.unusedSimpArgs false
namespace Go.Proofs.Ytghnigbihllnmaa.Fn
open Go Hl Sp Ty
set_option maxRecDepth 100000
def msgL : List ByteArray := [⟨#[99, 108, 105, 101, 110, 116, 32, 101, 120, 112, 105, 114, 101, 100]⟩, ⟨#[115, 101, 114, 118, 105, 99, 101, 32, 101, 120, 112, 105, 114, 101, 100]⟩, ⟨#[110, 111, 32, 108, 105, 102, 101, 116, 105, 109, 101, 32, 108, 101, 102, 116]⟩, ⟨#[112, 114, 111, 116, 111, 99, 111, 108, 32, 118, 101, 114, 115, 105, 111, 110]⟩, ⟨#[110, 111, 116, 32, 97, 32, 99, 108, 105, 101, 110, 116]⟩, ⟨#[110, 111, 116, 32, 97, 32, 115, 101, 114, 118, 105, 99, 101]⟩, ⟨#[98, 121, 116, 101, 32, 111, 114, 100, 101, 114]⟩, ⟨#[112, 114, 105, 110, 99, 105, 112, 97, 108, 32, 117, 110, 107, 110, 111, 119, 110]⟩, ⟨#[112, 114, 105, 110, 99, 105, 112, 97, 108, 32, 110, 111, 116, 32, 117, 110, 105, 113, 117, 101]⟩, ⟨#[110, 111, 32, 107, 101, 121]⟩]
def msgS (c : Int) : ByteArray := if c < 1 ∨ c > 10 then ⟨#[114, 101, 113, 117, 101, 115, 116, 32, 114, 101, 102, 117, 115, 101, 100]⟩ else msgL.getD (c - 1).toNat ⟨#[]⟩
theorem msgS_size (c : Int) : (msgS c).size ≤ 39 := by
  unfold msgS
  split
  · decide
  · generalize (c - 1).toNat = m
    match m with
    | 0 | 1 | 2 | 3 | 4 | 5 | 6 | 7 | 8 | 9 => decide
    | m + 10 => exact Nat.zero_le _
theorem ten {c : Int} (h : 1 ≤ c) (h' : c ≤ 10) : c = 1 ∨ c = 2 ∨ c = 3 ∨ c = 4 ∨ c = 5 ∨ c = 6 ∨ c = 7 ∨ c = 8 ∨ c = 9 ∨ c = 10 := by omega
set_option maxHeartbeats 8000000 in
theorem Message_pure (c : Int) : PC Try.prog 26 [.raw (.int .i64 c)] (.raw (.string (msgS c))) := by
  refine PC.of_ac ?_
  by_cases h1 : c < 1
  · rw [msgS, if_pos (.inl h1)]
    refine AC.of_body (M := []) Try.func26 rfl (by kernel_rfl) (Nat.le_of_ble_eq_true rfl) ?_; simp only [Try.results26, Try.ntmps26]
    simp (dsimp := false) only [go_sem, ↓reduceIte, Nat.reduceEqDiff, Nat.reduceLT, Nat.reduceAdd, Nat.reduceSub, Nat.reduceMul, Nat.reduceLeDiff, reduceCtorEq, Int.reduceNeg, Int.reduceToNat, Int.reduceLT, Int.reduceLE, Int.reduceGE, Int.reduceGT, Int.reduceEq, h1]
  by_cases h2 : c > 10
  · rw [msgS, if_pos (.inr h2)]
    have h3 : c ≥ 11 := by omega
    have h3' : ¬ c < 11 := by omega
    refine AC.of_body (M := []) Try.func26 rfl (by kernel_rfl) (Nat.le_of_ble_eq_true rfl) ?_; simp only [Try.results26, Try.ntmps26]
    simp (dsimp := false) only [go_sem, ↓reduceIte, Nat.reduceEqDiff, Nat.reduceLT, Nat.reduceAdd, Nat.reduceSub, Nat.reduceMul, Nat.reduceLeDiff, reduceCtorEq, Int.reduceNeg, Int.reduceToNat, Int.reduceLT, Int.reduceLE, Int.reduceGE, Int.reduceGT, Int.reduceEq, h1, h2, h3, h3']
  rcases ten (c := c) (by omega) (by omega) with rfl | rfl | rfl | rfl | rfl | rfl | rfl | rfl | rfl | rfl
  all_goals
    have hw : ∀ x : Int, x = 0 ∨ x = 1 ∨ x = 2 ∨ x = 3 ∨ x = 4 ∨ x = 5 ∨ x = 6 ∨ x = 7 ∨ x = 8 ∨ x = 9 → IntKind.i64.wrap x = x := fun x h => wrap_i64 (by omega) (by omega)
    have r1 : IntKind.i64.wrap (1 - 1) = 0 := by decide
    have r2 : IntKind.i64.wrap (2 - 1) = 1 := by decide
    have r3 : IntKind.i64.wrap (3 - 1) = 2 := by decide
    have r4 : IntKind.i64.wrap (4 - 1) = 3 := by decide
    have r5 : IntKind.i64.wrap (5 - 1) = 4 := by decide
    have r6 : IntKind.i64.wrap (6 - 1) = 5 := by decide
    have r7 : IntKind.i64.wrap (7 - 1) = 6 := by decide
    have r8 : IntKind.i64.wrap (8 - 1) = 7 := by decide
    have r9 : IntKind.i64.wrap (9 - 1) = 8 := by decide
    have r10 : IntKind.i64.wrap (10 - 1) = 9 := by decide
    rw [show msgS _ = _ from rfl]
    refine AC.of_body (M := []) Try.func26 rfl (by kernel_rfl) (Nat.le_of_ble_eq_true rfl) ?_; simp only [Try.results26, Try.ntmps26]
    simp (dsimp := false) only [go_sem, ↓reduceIte, Nat.reduceEqDiff, Nat.reduceLT, Nat.reduceAdd, Nat.reduceSub, Nat.reduceMul, Nat.reduceLeDiff, reduceCtorEq, Int.reduceNeg, Int.reduceToNat, Int.reduceLT, Int.reduceLE, Int.reduceGE, Int.reduceGT, Int.reduceEq, r1, r2, r3, r4, r5, r6, r7, r8, r9, r10]
    (try (intro k1 hk1))
    (try simp (dsimp := false) only [go_sem, ↓reduceIte, Nat.reduceEqDiff, Nat.reduceLT, Nat.reduceAdd, Nat.reduceSub, Nat.reduceMul, Nat.reduceLeDiff, reduceCtorEq, Int.reduceNeg, Int.reduceToNat, Int.reduceLT, Int.reduceLE, Int.reduceGE, Int.reduceGT, Int.reduceEq])
    (try rfl)
set_option maxHeartbeats 8000000 in
theorem rMessage_pure (c : Int) : PC Try.prog 30 [.raw (.int .i64 c)] (.raw (.string (msgS c))) := by
  refine PC.of_ac ?_
  by_cases h1 : c < 1
  · rw [msgS, if_pos (.inl h1)]
    refine AC.of_body (M := []) Try.func30 rfl (by kernel_rfl) (Nat.le_of_ble_eq_true rfl) ?_; simp only [Try.results30, Try.ntmps30]
    simp (dsimp := false) only [go_sem, ↓reduceIte, Nat.reduceEqDiff, Nat.reduceLT, Nat.reduceAdd, Nat.reduceSub, Nat.reduceMul, Nat.reduceLeDiff, reduceCtorEq, Int.reduceNeg, Int.reduceToNat, Int.reduceLT, Int.reduceLE, Int.reduceGE, Int.reduceGT, Int.reduceEq, h1]
  by_cases h2 : c > 10
  · rw [msgS, if_pos (.inr h2)]
    have h3 : c ≥ 11 := by omega
    have h3' : ¬ c < 11 := by omega
    refine AC.of_body (M := []) Try.func30 rfl (by kernel_rfl) (Nat.le_of_ble_eq_true rfl) ?_; simp only [Try.results30, Try.ntmps30]
    simp (dsimp := false) only [go_sem, ↓reduceIte, Nat.reduceEqDiff, Nat.reduceLT, Nat.reduceAdd, Nat.reduceSub, Nat.reduceMul, Nat.reduceLeDiff, reduceCtorEq, Int.reduceNeg, Int.reduceToNat, Int.reduceLT, Int.reduceLE, Int.reduceGE, Int.reduceGT, Int.reduceEq, h1, h2, h3, h3']
  rcases ten (c := c) (by omega) (by omega) with rfl | rfl | rfl | rfl | rfl | rfl | rfl | rfl | rfl | rfl
  all_goals
    have hw : ∀ x : Int, x = 0 ∨ x = 1 ∨ x = 2 ∨ x = 3 ∨ x = 4 ∨ x = 5 ∨ x = 6 ∨ x = 7 ∨ x = 8 ∨ x = 9 → IntKind.i64.wrap x = x := fun x h => wrap_i64 (by omega) (by omega)
    have r1 : IntKind.i64.wrap (1 - 1) = 0 := by decide
    have r2 : IntKind.i64.wrap (2 - 1) = 1 := by decide
    have r3 : IntKind.i64.wrap (3 - 1) = 2 := by decide
    have r4 : IntKind.i64.wrap (4 - 1) = 3 := by decide
    have r5 : IntKind.i64.wrap (5 - 1) = 4 := by decide
    have r6 : IntKind.i64.wrap (6 - 1) = 5 := by decide
    have r7 : IntKind.i64.wrap (7 - 1) = 6 := by decide
    have r8 : IntKind.i64.wrap (8 - 1) = 7 := by decide
    have r9 : IntKind.i64.wrap (9 - 1) = 8 := by decide
    have r10 : IntKind.i64.wrap (10 - 1) = 9 := by decide
    rw [show msgS _ = _ from rfl]
    refine AC.of_body (M := []) Try.func30 rfl (by kernel_rfl) (Nat.le_of_ble_eq_true rfl) ?_; simp only [Try.results30, Try.ntmps30]
    simp (dsimp := false) only [go_sem, ↓reduceIte, Nat.reduceEqDiff, Nat.reduceLT, Nat.reduceAdd, Nat.reduceSub, Nat.reduceMul, Nat.reduceLeDiff, reduceCtorEq, Int.reduceNeg, Int.reduceToNat, Int.reduceLT, Int.reduceLE, Int.reduceGE, Int.reduceGT, Int.reduceEq, r1, r2, r3, r4, r5, r6, r7, r8, r9, r10]
    (try (intro k1 hk1))
    (try simp (dsimp := false) only [go_sem, ↓reduceIte, Nat.reduceEqDiff, Nat.reduceLT, Nat.reduceAdd, Nat.reduceSub, Nat.reduceMul, Nat.reduceLeDiff, reduceCtorEq, Int.reduceNeg, Int.reduceToNat, Int.reduceLT, Int.reduceLE, Int.reduceGE, Int.reduceGT, Int.reduceEq])
    (try rfl)
theorem errB_length (lt : Bool) (n i r : ByteArray) (tm cd : Int) (s : ByteArray) : (errB lt n i r tm cd s).length ≤ n.size + i.size + r.size + s.size + 20 := by
  rw [errB, List.length_append, hdB_length, errF_length]
  omega
set_option maxHeartbeats 8000000 in
theorem KdcErrors_pc (lt : Bool) (n i r : ByteArray) (tm cd : Int) (s : ByteArray) (who code : Int) (text : ByteArray) (little : Bool) (hw : 0 ≤ who ∧ who ≤ 255) :
    PC Try.prog 5 [errA lt n i r tm cd s, .raw (.int .u8 who), .raw (.int .i64 code), .raw (.string text), .raw (.bool little)] (.raw (.bool true)) := by
  refine PC.of_ac ?_
  have hlong := long9_pure [n, i, r, s, text] (by simp)
  simp only [List.map_cons, List.map_nil, strA] at hlong
  have w0 : IntKind.i64.wrap who = who := wrap_i64 (by omega) (by omega)
  have w1000 : IntKind.i64.wrap (who * 1000) = who * 1000 := wrap_i64 (by omega) (by omega)
  have t99 : who.tmod 99 = who % 99 := Int.tmod_eq_emod_of_nonneg hw.1
  have w99 : IntKind.i64.wrap (1 + who.tmod 99) = 1 + who.tmod 99 := wrap_i64 (by omega) (by omega)
  have hU := User_pure who hw.1 (by omega)
  have hv := validB_size (userP_val who)
  unfold prinA at hU
  unfold errA
  refine AC.of_body (M := []) Try.func5 rfl (by kernel_rfl) (Nat.le_of_ble_eq_true rfl) ?_; simp only [Try.results5, Try.ntmps5]
  simp (dsimp := false) only [go_sem, ↓reduceIte, Nat.reduceEqDiff, Nat.reduceLT, Nat.reduceAdd, Nat.reduceSub, Nat.reduceMul, Nat.reduceLeDiff, reduceCtorEq, Int.reduceNeg, Int.reduceToNat, Int.reduceLT, Int.reduceLE, Int.reduceGE, Int.reduceGT, Int.reduceEq]
  refine ACs.pure awake9_pure ?_
  simp (dsimp := false) only [go_sem, ↓reduceIte, Nat.reduceEqDiff, Nat.reduceLT, Nat.reduceAdd, Nat.reduceSub, Nat.reduceMul, Nat.reduceLeDiff, reduceCtorEq, Int.reduceNeg, Int.reduceToNat, Int.reduceLT, Int.reduceLE, Int.reduceGE, Int.reduceGT, Int.reduceEq]
  refine ACs.pure hlong ?_
  rcases Bool.eq_false_or_eq_true (long9B [n, i, r, s, text]) with hl | hl
  · simp (dsimp := false) only [go_sem, ↓reduceIte, Nat.reduceEqDiff, Nat.reduceLT, Nat.reduceAdd, Nat.reduceSub, Nat.reduceMul, Nat.reduceLeDiff, reduceCtorEq, Int.reduceNeg, Int.reduceToNat, Int.reduceLT, Int.reduceLE, Int.reduceGE, Int.reduceGT, Int.reduceEq, hl]
  simp (dsimp := false) only [go_sem, ↓reduceIte, Nat.reduceEqDiff, Nat.reduceLT, Nat.reduceAdd, Nat.reduceSub, Nat.reduceMul, Nat.reduceLeDiff, reduceCtorEq, Int.reduceNeg, Int.reduceToNat, Int.reduceLT, Int.reduceLE, Int.reduceGE, Int.reduceGT, Int.reduceEq, hl, w0]
  have hz' : n.size ≤ 100 ∧ i.size ≤ 100 ∧ r.size ≤ 100 ∧ s.size ≤ 100 ∧ text.size ≤ 100 := by
    simp only [long9B, List.any_cons, List.any_nil, Bool.or_eq_false_iff, decide_eq_false_iff_not] at hl
    omega
  refine ACs.pure hU ?_
  simp (dsimp := false) only [go_sem, ↓reduceIte, Nat.reduceEqDiff, Nat.reduceLT, Nat.reduceAdd, Nat.reduceSub, Nat.reduceMul, Nat.reduceLeDiff, reduceCtorEq, Int.reduceNeg, Int.reduceToNat, Int.reduceLT, Int.reduceLE, Int.reduceGE, Int.reduceGT, Int.reduceEq, w0, w1000, w99]
  intro k0 hk0
  refine AW.ghost (Ghost.slot (t := 11) (Weak1.box (k := k0) (d := .st _) (Own.set_same _ _ _) rfl rfl)) ?_
  refine AW.loopJ (M := []) (X := Nat) (fun j => ⟨116, tmL [(1, .raw (.int .u8 who)), (2, .raw (.int .i64 code)), (5, .ref (.st [.raw (.bool lt), .raw (.string n), .raw (.string i), .raw (.string r), .raw (.int .i64 tm), .raw (.int .i64 cd), .raw (.string s)])), (11, .ref (.st [.raw (.bool little), .raw (.string (userP who).1), .raw (.string (userP who).2.1), .raw (.string (userP who).2.2), .raw (.int .i64 (who * 1000)), .raw (.int .i64 (1 + who.tmod 99)), .raw (.string text)])), (12, .raw (.int .i64 j))], noOwn⟩)
    (fun j => j ≤ 3) (fun j => 3 - j) 0 (by decide) ?_ ?_
  · (refine Ghost.of ?_ (fun _ _ h => by cases h); (repeat' (first | exact all_nil | refine all_cons ?_ ?_)) <;> (first | (simp (dsimp := false) only [go_sem, ↓reduceIte, Nat.reduceEqDiff, Nat.reduceLT, Nat.reduceAdd, Nat.reduceSub, Nat.reduceMul, Nat.reduceLeDiff, reduceCtorEq, Int.reduceNeg, Int.reduceToNat, Int.reduceLT, Int.reduceLE, Int.reduceGE, Int.reduceGT, Int.reduceEq]; done) | (simp (dsimp := false) only [go_sem, ↓reduceIte, Nat.reduceEqDiff, Nat.reduceLT, Nat.reduceAdd, Nat.reduceSub, Nat.reduceMul, Nat.reduceLeDiff, reduceCtorEq, Int.reduceNeg, Int.reduceToNat, Int.reduceLT, Int.reduceLE, Int.reduceGE, Int.reduceGT, Int.reduceEq]; rfl)))
  intro j hj
  by_cases hj2 : (j : Int) < 3
  · have w1 : IntKind.i64.wrap ((j : Int) + 1) = ((j + 1 : Nat) : Int) := by rw [wrap_i64 (by omega) (by omega)]; omega
    obtain ⟨LT, N, I, R, TM, CD, S, hX, hN⟩ : ∃ (LT : Bool) (N I R : ByteArray) (TM CD : Int) (S : ByteArray), [AV.st [.raw (.bool lt), .raw (.string n), .raw (.string i), .raw (.string r), .raw (.int .i64 tm), .raw (.int .i64 cd), .raw (.string s)], AV.st [.raw (.bool little), .raw (.string (userP who).1), .raw (.string (userP who).2.1), .raw (.string (userP who).2.2), .raw (.int .i64 (who * 1000)), .raw (.int .i64 (1 + who.tmod 99)), .raw (.string text)], AV.st [.raw (.bool little), .raw (.string (userP who).1), .raw (.string (userP who).2.1), .raw (.string (userP who).2.2), .raw (.int .i64 (who * 1000)), .raw (.int .i64 (1 + who.tmod 99)), .raw (.string text)]].getD j .any = AV.st [.raw (.bool LT), .raw (.string N), .raw (.string I), .raw (.string R), .raw (.int .i64 TM), .raw (.int .i64 CD), .raw (.string S)] ∧ N.size ≤ 100 ∧ I.size ≤ 100 ∧ R.size ≤ 100 ∧ S.size ≤ 100 := by
      match j, (show j < 3 by omega) with
      | 0, _ => exact ⟨_, _, _, _, _, _, _, rfl, by omega, by omega, by omega, by omega⟩
      | 1, _ => exact ⟨_, _, _, _, _, _, _, rfl, by omega, by omega, by omega, by omega⟩
      | 2, _ => exact ⟨_, _, _, _, _, _, _, rfl, by omega, by omega, by omega, by omega⟩
    by_cases hjj : (j : Int) = 2
    · have w1 : IntKind.i64.wrap (2 + 1) = ((j + 1 : Nat) : Int) := by rw [show ((j + 1 : Nat) : Int) = 3 by omega]; decide
      have hms := msgS_size (1 + who.tmod 99)
      have hE1 := errEncode_pure little (userP who).1 (userP who).2.1 (userP who).2.2 (who * 1000) (1 + who.tmod 99) (msgS (1 + who.tmod 99)) (by omega) (by omega) (by omega) (by omega)
      have hE2 := rerrEncode_pure little (userP who).1 (userP who).2.1 (userP who).2.2 (who * 1000) (1 + who.tmod 99) (msgS (1 + who.tmod 99)) (by omega) (by omega) (by omega) (by omega)
      have hbl := errB_length little (userP who).1 (userP who).2.1 (userP who).2.2 (who * 1000) (1 + who.tmod 99) (msgS (1 + who.tmod 99))
      have hdc : ∀ d, errChk little (userP who).1 (userP who).2.1 (userP who).2.2 (who * 1000) (1 + who.tmod 99) (msgS (1 + who.tmod 99)) = 0 → errDec (errB little (userP who).1 (userP who).2.1 (userP who).2.2 (who * 1000) (1 + who.tmod 99) (msgS (1 + who.tmod 99))) d → d = .tup [errA little (userP who).1 (userP who).2.1 (userP who).2.2 (who * 1000) (1 + who.tmod 99) (msgS (1 + who.tmod 99)), .raw (.int .i64 0)] := fun d h0 h => h.of ⟨h0, rfl⟩
      unfold errA errE at hE1 hE2
      obtain ⟨B, hB⟩ : ∃ B, errB little (userP who).1 (userP who).2.1 (userP who).2.2 (who * 1000) (1 + who.tmod 99) (msgS (1 + who.tmod 99)) = B := ⟨_, rfl⟩
      rw [hB] at hE1 hE2 hbl hdc
      obtain ⟨E, hE⟩ : ∃ E, errChk little (userP who).1 (userP who).2.1 (userP who).2.2 (who * 1000) (1 + who.tmod 99) (msgS (1 + who.tmod 99)) = E := ⟨_, rfl⟩
      rw [hE] at hE1 hE2 hdc
      simp (dsimp := false) only [go_sem, ↓reduceIte, Nat.reduceEqDiff, Nat.reduceLT, Nat.reduceAdd, Nat.reduceSub, Nat.reduceMul, Nat.reduceLeDiff, reduceCtorEq, Int.reduceNeg, Int.reduceToNat, Int.reduceLT, Int.reduceLE, Int.reduceGE, Int.reduceGT, Int.reduceEq, hj2, hX, hjj]
      (try refine ⟨by omega, ?_⟩)
      intro k1 hk1
      refine ACs.pure (Message_pure (1 + who.tmod 99)) ?_
      simp (dsimp := false) only [go_sem, ↓reduceIte, Nat.reduceEqDiff, Nat.reduceLT, Nat.reduceAdd, Nat.reduceSub, Nat.reduceMul, Nat.reduceLeDiff, reduceCtorEq, Int.reduceNeg, Int.reduceToNat, Int.reduceLT, Int.reduceLE, Int.reduceGE, Int.reduceGT, Int.reduceEq]
      refine ACs.pure hE1 ?_
      simp (dsimp := false) only [go_sem, ↓reduceIte, Nat.reduceEqDiff, Nat.reduceLT, Nat.reduceAdd, Nat.reduceSub, Nat.reduceMul, Nat.reduceLeDiff, reduceCtorEq, Int.reduceNeg, Int.reduceToNat, Int.reduceLT, Int.reduceLE, Int.reduceGE, Int.reduceGT, Int.reduceEq]
      refine ACs.pure hE2 ?_
      by_cases h0 : E = 0
      · rw [if_pos h0]
        simp (dsimp := false) only [go_sem, ↓reduceIte, Nat.reduceEqDiff, Nat.reduceLT, Nat.reduceAdd, Nat.reduceSub, Nat.reduceMul, Nat.reduceLeDiff, reduceCtorEq, Int.reduceNeg, Int.reduceToNat, Int.reduceLT, Int.reduceLE, Int.reduceGE, Int.reduceGT, Int.reduceEq, h0, bytes_eq]
        refine ACs.pn (errDecode_pn B (by omega)) ?_
        intro d hd
        have hd := hdc d h0 hd
        subst hd
        unfold errA
        simp (dsimp := false) only [go_sem, ↓reduceIte, Nat.reduceEqDiff, Nat.reduceLT, Nat.reduceAdd, Nat.reduceSub, Nat.reduceMul, Nat.reduceLeDiff, reduceCtorEq, Int.reduceNeg, Int.reduceToNat, Int.reduceLT, Int.reduceLE, Int.reduceGE, Int.reduceGT, Int.reduceEq]
        intro k2 hk2
        have q1 := none_ne hk2
        have q2 : ∀ (own : Own) o, (own.set k2 o) k1 = own k1 := fun own o => Own.set_ne _ _ (Ne.symm q1)
        have q3 : ∀ (own : Own) o, (own.set k1 o) k2 = own k2 := fun own o => Own.set_ne _ _ q1
        simp (dsimp := false) only [go_sem, ↓reduceIte, Nat.reduceEqDiff, Nat.reduceLT, Nat.reduceAdd, Nat.reduceSub, Nat.reduceMul, Nat.reduceLeDiff, reduceCtorEq, Int.reduceNeg, Int.reduceToNat, Int.reduceLT, Int.reduceLE, Int.reduceGE, Int.reduceGT, Int.reduceEq, q2, q3, w1]
        refine ⟨j + 1, by omega, ?_, by omega⟩
        (refine Ghost.of ?_ (fun _ _ h => by cases h); (repeat' (first | exact all_nil | refine all_cons ?_ ?_)) <;> (first | (simp (dsimp := false) only [go_sem, ↓reduceIte, Nat.reduceEqDiff, Nat.reduceLT, Nat.reduceAdd, Nat.reduceSub, Nat.reduceMul, Nat.reduceLeDiff, reduceCtorEq, Int.reduceNeg, Int.reduceToNat, Int.reduceLT, Int.reduceLE, Int.reduceGE, Int.reduceGT, Int.reduceEq]; done) | (simp (dsimp := false) only [go_sem, ↓reduceIte, Nat.reduceEqDiff, Nat.reduceLT, Nat.reduceAdd, Nat.reduceSub, Nat.reduceMul, Nat.reduceLeDiff, reduceCtorEq, Int.reduceNeg, Int.reduceToNat, Int.reduceLT, Int.reduceLE, Int.reduceGE, Int.reduceGT, Int.reduceEq]; rfl)))
      · rw [if_neg h0]
        have hbn : bytesOf [] = some [] := rfl
        simp (dsimp := false) only [go_sem, ↓reduceIte, Nat.reduceEqDiff, Nat.reduceLT, Nat.reduceAdd, Nat.reduceSub, Nat.reduceMul, Nat.reduceLeDiff, reduceCtorEq, Int.reduceNeg, Int.reduceToNat, Int.reduceLT, Int.reduceLE, Int.reduceGE, Int.reduceGT, Int.reduceEq, h0, bytes_eq, hbn, w1]
        refine ⟨j + 1, by omega, ?_, by omega⟩
        (refine Ghost.of ?_ (fun _ _ h => by cases h); (repeat' (first | exact all_nil | refine all_cons ?_ ?_)) <;> (first | (simp (dsimp := false) only [go_sem, ↓reduceIte, Nat.reduceEqDiff, Nat.reduceLT, Nat.reduceAdd, Nat.reduceSub, Nat.reduceMul, Nat.reduceLeDiff, reduceCtorEq, Int.reduceNeg, Int.reduceToNat, Int.reduceLT, Int.reduceLE, Int.reduceGE, Int.reduceGT, Int.reduceEq]; done) | (simp (dsimp := false) only [go_sem, ↓reduceIte, Nat.reduceEqDiff, Nat.reduceLT, Nat.reduceAdd, Nat.reduceSub, Nat.reduceMul, Nat.reduceLeDiff, reduceCtorEq, Int.reduceNeg, Int.reduceToNat, Int.reduceLT, Int.reduceLE, Int.reduceGE, Int.reduceGT, Int.reduceEq]; rfl)))
    · have hE1 := errEncode_pure LT N I R TM CD S (by omega) (by omega) (by omega) (by omega)
      have hE2 := rerrEncode_pure LT N I R TM CD S (by omega) (by omega) (by omega) (by omega)
      have hbl := errB_length LT N I R TM CD S
      have hdc : ∀ d, errChk LT N I R TM CD S = 0 → errDec (errB LT N I R TM CD S) d → d = .tup [errA LT N I R TM CD S, .raw (.int .i64 0)] := fun d h0 h => h.of ⟨h0, rfl⟩
      unfold errA errE at hE1 hE2
      obtain ⟨B, hB⟩ : ∃ B, errB LT N I R TM CD S = B := ⟨_, rfl⟩
      rw [hB] at hE1 hE2 hbl hdc
      obtain ⟨E, hE⟩ : ∃ E, errChk LT N I R TM CD S = E := ⟨_, rfl⟩
      rw [hE] at hE1 hE2 hdc
      simp (dsimp := false) only [go_sem, ↓reduceIte, Nat.reduceEqDiff, Nat.reduceLT, Nat.reduceAdd, Nat.reduceSub, Nat.reduceMul, Nat.reduceLeDiff, reduceCtorEq, Int.reduceNeg, Int.reduceToNat, Int.reduceLT, Int.reduceLE, Int.reduceGE, Int.reduceGT, Int.reduceEq, hj2, hX, hjj]
      (try refine ⟨by omega, ?_⟩)
      intro k1 hk1
      (try simp (dsimp := false) only [go_sem, ↓reduceIte, Nat.reduceEqDiff, Nat.reduceLT, Nat.reduceAdd, Nat.reduceSub, Nat.reduceMul, Nat.reduceLeDiff, reduceCtorEq, Int.reduceNeg, Int.reduceToNat, Int.reduceLT, Int.reduceLE, Int.reduceGE, Int.reduceGT, Int.reduceEq, hjj])
      refine ACs.pure hE1 ?_
      simp (dsimp := false) only [go_sem, ↓reduceIte, Nat.reduceEqDiff, Nat.reduceLT, Nat.reduceAdd, Nat.reduceSub, Nat.reduceMul, Nat.reduceLeDiff, reduceCtorEq, Int.reduceNeg, Int.reduceToNat, Int.reduceLT, Int.reduceLE, Int.reduceGE, Int.reduceGT, Int.reduceEq]
      refine ACs.pure hE2 ?_
      by_cases h0 : E = 0
      · rw [if_pos h0]
        simp (dsimp := false) only [go_sem, ↓reduceIte, Nat.reduceEqDiff, Nat.reduceLT, Nat.reduceAdd, Nat.reduceSub, Nat.reduceMul, Nat.reduceLeDiff, reduceCtorEq, Int.reduceNeg, Int.reduceToNat, Int.reduceLT, Int.reduceLE, Int.reduceGE, Int.reduceGT, Int.reduceEq, h0, bytes_eq]
        refine ACs.pn (errDecode_pn B (by omega)) ?_
        intro d hd
        have hd := hdc d h0 hd
        subst hd
        unfold errA
        simp (dsimp := false) only [go_sem, ↓reduceIte, Nat.reduceEqDiff, Nat.reduceLT, Nat.reduceAdd, Nat.reduceSub, Nat.reduceMul, Nat.reduceLeDiff, reduceCtorEq, Int.reduceNeg, Int.reduceToNat, Int.reduceLT, Int.reduceLE, Int.reduceGE, Int.reduceGT, Int.reduceEq]
        intro k2 hk2
        have q1 := none_ne hk2
        have q2 : ∀ (own : Own) o, (own.set k2 o) k1 = own k1 := fun own o => Own.set_ne _ _ (Ne.symm q1)
        have q3 : ∀ (own : Own) o, (own.set k1 o) k2 = own k2 := fun own o => Own.set_ne _ _ q1
        simp (dsimp := false) only [go_sem, ↓reduceIte, Nat.reduceEqDiff, Nat.reduceLT, Nat.reduceAdd, Nat.reduceSub, Nat.reduceMul, Nat.reduceLeDiff, reduceCtorEq, Int.reduceNeg, Int.reduceToNat, Int.reduceLT, Int.reduceLE, Int.reduceGE, Int.reduceGT, Int.reduceEq, q2, q3, w1]
        refine ⟨j + 1, by omega, ?_, by omega⟩
        (refine Ghost.of ?_ (fun _ _ h => by cases h); (repeat' (first | exact all_nil | refine all_cons ?_ ?_)) <;> (first | (simp (dsimp := false) only [go_sem, ↓reduceIte, Nat.reduceEqDiff, Nat.reduceLT, Nat.reduceAdd, Nat.reduceSub, Nat.reduceMul, Nat.reduceLeDiff, reduceCtorEq, Int.reduceNeg, Int.reduceToNat, Int.reduceLT, Int.reduceLE, Int.reduceGE, Int.reduceGT, Int.reduceEq]; done) | (simp (dsimp := false) only [go_sem, ↓reduceIte, Nat.reduceEqDiff, Nat.reduceLT, Nat.reduceAdd, Nat.reduceSub, Nat.reduceMul, Nat.reduceLeDiff, reduceCtorEq, Int.reduceNeg, Int.reduceToNat, Int.reduceLT, Int.reduceLE, Int.reduceGE, Int.reduceGT, Int.reduceEq]; rfl)))
      · rw [if_neg h0]
        have hbn : bytesOf [] = some [] := rfl
        simp (dsimp := false) only [go_sem, ↓reduceIte, Nat.reduceEqDiff, Nat.reduceLT, Nat.reduceAdd, Nat.reduceSub, Nat.reduceMul, Nat.reduceLeDiff, reduceCtorEq, Int.reduceNeg, Int.reduceToNat, Int.reduceLT, Int.reduceLE, Int.reduceGE, Int.reduceGT, Int.reduceEq, h0, bytes_eq, hbn, w1]
        refine ⟨j + 1, by omega, ?_, by omega⟩
        (refine Ghost.of ?_ (fun _ _ h => by cases h); (repeat' (first | exact all_nil | refine all_cons ?_ ?_)) <;> (first | (simp (dsimp := false) only [go_sem, ↓reduceIte, Nat.reduceEqDiff, Nat.reduceLT, Nat.reduceAdd, Nat.reduceSub, Nat.reduceMul, Nat.reduceLeDiff, reduceCtorEq, Int.reduceNeg, Int.reduceToNat, Int.reduceLT, Int.reduceLE, Int.reduceGE, Int.reduceGT, Int.reduceEq]; done) | (simp (dsimp := false) only [go_sem, ↓reduceIte, Nat.reduceEqDiff, Nat.reduceLT, Nat.reduceAdd, Nat.reduceSub, Nat.reduceMul, Nat.reduceLeDiff, reduceCtorEq, Int.reduceNeg, Int.reduceToNat, Int.reduceLT, Int.reduceLE, Int.reduceGE, Int.reduceGT, Int.reduceEq]; rfl)))
  · have w14 : IntKind.i64.wrap (who.tmod 14) = who.tmod 14 := wrap_i64 (by rw [Int.tmod_eq_emod_of_nonneg hw.1]; omega) (by rw [Int.tmod_eq_emod_of_nonneg hw.1]; omega)
    simp (dsimp := false) only [go_sem, ↓reduceIte, Nat.reduceEqDiff, Nat.reduceLT, Nat.reduceAdd, Nat.reduceSub, Nat.reduceMul, Nat.reduceLeDiff, reduceCtorEq, Int.reduceNeg, Int.reduceToNat, Int.reduceLT, Int.reduceLE, Int.reduceGE, Int.reduceGT, Int.reduceEq, hj2]
    refine ACs.pure (Message_pure code) ?_
    simp (dsimp := false) only [go_sem, ↓reduceIte, Nat.reduceEqDiff, Nat.reduceLT, Nat.reduceAdd, Nat.reduceSub, Nat.reduceMul, Nat.reduceLeDiff, reduceCtorEq, Int.reduceNeg, Int.reduceToNat, Int.reduceLT, Int.reduceLE, Int.reduceGE, Int.reduceGT, Int.reduceEq]
    refine ACs.pure (rMessage_pure code) ?_
    simp (dsimp := false) only [go_sem, ↓reduceIte, Nat.reduceEqDiff, Nat.reduceLT, Nat.reduceAdd, Nat.reduceSub, Nat.reduceMul, Nat.reduceLeDiff, reduceCtorEq, Int.reduceNeg, Int.reduceToNat, Int.reduceLT, Int.reduceLE, Int.reduceGE, Int.reduceGT, Int.reduceEq, w14]
    refine ACs.pure (Message_pure _) ?_
    simp (dsimp := false) only [go_sem, ↓reduceIte, Nat.reduceEqDiff, Nat.reduceLT, Nat.reduceAdd, Nat.reduceSub, Nat.reduceMul, Nat.reduceLeDiff, reduceCtorEq, Int.reduceNeg, Int.reduceToNat, Int.reduceLT, Int.reduceLE, Int.reduceGE, Int.reduceGT, Int.reduceEq, w14]
    refine ACs.pure (rMessage_pure _) ?_
    simp (dsimp := false) only [go_sem, ↓reduceIte, Nat.reduceEqDiff, Nat.reduceLT, Nat.reduceAdd, Nat.reduceSub, Nat.reduceMul, Nat.reduceLeDiff, reduceCtorEq, Int.reduceNeg, Int.reduceToNat, Int.reduceLT, Int.reduceLE, Int.reduceGE, Int.reduceGT, Int.reduceEq]
end Go.Proofs.Ytghnigbihllnmaa.Fn
