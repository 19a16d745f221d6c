/- The laws on tickets. -/
import Derived.Test.YtaokfnfaipdpdaaFn32
import Derived.Test.YtaokfnfaipdpdaaFn20
set_option linter.unusedVariables false
set_option linter.unusedSimpArgs false
namespace Go.Proofs.Ytaokfnfaipdpdaa.Fn
open Go Hl Sp Ty
set_option maxRecDepth 100000
theorem tkB_length (lt : Bool) (n i r : ByteArray) (ad k li is : Int) (s t : ByteArray) : (tkB lt n i r ad k li is s t).length ≤ n.size + i.size + r.size + s.size + t.size + 30 := by
  have := padB_length (tkPre lt n i r ad k li is s t)
  rw [tkPre_length] at this
  unfold tkB
  omega
theorem TkOk.size {n i r : ByteArray} {ad k li is : Int} {s t : ByteArray} (h : TkOk n i r ad k li is s t) : n.size ≤ 39 ∧ i.size ≤ 39 ∧ r.size ≤ 39 ∧ s.size ≤ 39 ∧ t.size ≤ 39 ∧ 0 ≤ k ∧ k < 18446744073709551616 := by
  have a := validB_size h.1
  have b := nameB_size h.2.1
  have c := instB_size h.2.2.1
  have d := h.2.2.2.2.1
  omega
theorem tk_dec {lt : Bool} {n i r : ByteArray} {ad k li is : Int} {s t : ByteArray} {d : AV} (h0 : tkChk n i r ad k li is s t = 0) (hk : 0 ≤ k ∧ k < 18446744073709551616) (h : DecT (tkB lt n i r ad k li is s t) d) : d = .tup [ticketA lt n i r ad k li is s t, .raw (.int .i64 0)] :=
  h.unique (.inl ⟨_, _, _, _, _, _, _, _, _, _, ⟨tkChk_ok h0 hk, rfl⟩, rfl⟩)
theorem awake6_pure : PC Try.prog 26 [] (.raw (.bool true)) := by
  refine PC.of_ac ?_
  have he := tkEncode_pure false ⟨#[97]⟩ ⟨#[98]⟩ ⟨#[99]⟩ 0 144115188075855874 0 0 ⟨#[115]⟩ ⟨#[]⟩ (by decide) (by decide) (by decide) (by decide) (by decide) (by decide) (by decide)
  have hS := Session_pure 1 (by decide) (by decide)
  rw [show (144115188075855873 : Int) + 1 = 144115188075855874 by decide] at hS
  have e1 : tkE false ⟨#[97]⟩ ⟨#[98]⟩ ⟨#[99]⟩ 0 144115188075855874 0 0 ⟨#[115]⟩ ⟨#[]⟩ = .tup [.lst 1 ([0, 97, 0, 98, 0, 99, 0, 0, 0, 0, 0, 2, 0, 0, 0, 0, 0, 0, 2, 0, 0, 0, 0, 0, 115, 0, 0, 0, 0, 0, 0, 0].map byteA), .raw (.int .i64 0)] := by
    have c1 : tkChk ⟨#[97]⟩ ⟨#[98]⟩ ⟨#[99]⟩ 0 144115188075855874 0 0 ⟨#[115]⟩ ⟨#[]⟩ = 0 := by decide
    have c2 : tkB false ⟨#[97]⟩ ⟨#[98]⟩ ⟨#[99]⟩ 0 144115188075855874 0 0 ⟨#[115]⟩ ⟨#[]⟩ = [0, 97, 0, 98, 0, 99, 0, 0, 0, 0, 0, 2, 0, 0, 0, 0, 0, 0, 2, 0, 0, 0, 0, 0, 115, 0, 0, 0, 0, 0, 0, 0] := by decide
    rw [tkE, c1, if_pos rfl, c2]
  rw [e1] at he
  unfold ticketA at he
  refine AC.of_body (M := []) Try.func26 rfl (by kernel_rfl) (Nat.le_of_ble_eq_true rfl) ?_; simp only [Try.results26, Try.ntmps26]
  simp (dsimp := false) only [go_sem, ↓reduceIte, Nat.reduceEqDiff, Nat.reduceLT, Nat.reduceAdd, Nat.reduceSub, Nat.reduceMul, Nat.reduceLeDiff, reduceCtorEq, Int.reduceNeg, Int.reduceToNat, Int.reduceLT, Int.reduceLE, Int.reduceGE, Int.reduceGT, Int.reduceEq]
  refine ACs.pure hS ?_
  simp (dsimp := false) only [go_sem, ↓reduceIte, Nat.reduceEqDiff, Nat.reduceLT, Nat.reduceAdd, Nat.reduceSub, Nat.reduceMul, Nat.reduceLeDiff, reduceCtorEq, Int.reduceNeg, Int.reduceToNat, Int.reduceLT, Int.reduceLE, Int.reduceGE, Int.reduceGT, Int.reduceEq]
  refine ACs.pure he ?_
  have hb : byteA 0 = .raw (.int .u8 0) := rfl
  have hb' : byteA 97 = .raw (.int .u8 97) := rfl
  simp (dsimp := false) only [go_sem, ↓reduceIte, Nat.reduceEqDiff, Nat.reduceLT, Nat.reduceAdd, Nat.reduceSub, Nat.reduceMul, Nat.reduceLeDiff, reduceCtorEq, Int.reduceNeg, Int.reduceToNat, Int.reduceLT, Int.reduceLE, Int.reduceGE, Int.reduceGT, Int.reduceEq, hb, hb']
def long6B (n i r s t : ByteArray) : Bool := decide ((n.size : Int) > 100) || decide ((i.size : Int) > 100) || decide ((r.size : Int) > 100) || decide ((s.size : Int) > 100) || decide ((t.size : Int) > 100)
theorem long6B_false {n i r s t : ByteArray} (h : long6B n i r s t = false) : n.size ≤ 100 ∧ i.size ≤ 100 ∧ r.size ≤ 100 ∧ s.size ≤ 100 ∧ t.size ≤ 100 := by
  unfold long6B at h
  simp only [Bool.or_eq_false_iff, decide_eq_false_iff_not] at h
  omega
theorem long6_pure (lt : Bool) (n i r : ByteArray) (ad k li is : Int) (s t : ByteArray) : PC Try.prog 27 [ticketA lt n i r ad k li is s t] (.raw (.bool (long6B n i r s t))) := by
  refine PC.of_ac ?_
  unfold ticketA
  refine AC.of_body (M := []) Try.func27 rfl (by kernel_rfl) (Nat.le_of_ble_eq_true rfl) ?_; simp only [Try.results27, Try.ntmps27]
  by_cases h1 : (n.size : Int) > 100
  · simp (dsimp := false) only [go_sem, ↓reduceIte, Nat.reduceEqDiff, Nat.reduceLT, Nat.reduceAdd, Nat.reduceSub, Nat.reduceMul, Nat.reduceLeDiff, reduceCtorEq, Int.reduceNeg, Int.reduceToNat, Int.reduceLT, Int.reduceLE, Int.reduceGE, Int.reduceGT, Int.reduceEq, h1]
    simp [long6B]; omega
  by_cases h2 : (i.size : Int) > 100
  · simp (dsimp := false) only [go_sem, ↓reduceIte, Nat.reduceEqDiff, Nat.reduceLT, Nat.reduceAdd, Nat.reduceSub, Nat.reduceMul, Nat.reduceLeDiff, reduceCtorEq, Int.reduceNeg, Int.reduceToNat, Int.reduceLT, Int.reduceLE, Int.reduceGE, Int.reduceGT, Int.reduceEq, h1, h2]
    simp [long6B]; omega
  by_cases h3 : (r.size : Int) > 100
  · simp (dsimp := false) only [go_sem, ↓reduceIte, Nat.reduceEqDiff, Nat.reduceLT, Nat.reduceAdd, Nat.reduceSub, Nat.reduceMul, Nat.reduceLeDiff, reduceCtorEq, Int.reduceNeg, Int.reduceToNat, Int.reduceLT, Int.reduceLE, Int.reduceGE, Int.reduceGT, Int.reduceEq, h1, h2, h3]
    simp [long6B]; omega
  by_cases h4 : (s.size : Int) > 100
  · simp (dsimp := false) only [go_sem, ↓reduceIte, Nat.reduceEqDiff, Nat.reduceLT, Nat.reduceAdd, Nat.reduceSub, Nat.reduceMul, Nat.reduceLeDiff, reduceCtorEq, Int.reduceNeg, Int.reduceToNat, Int.reduceLT, Int.reduceLE, Int.reduceGE, Int.reduceGT, Int.reduceEq, h1, h2, h3, h4]
    simp [long6B]; omega
  by_cases h5 : (t.size : Int) > 100
  · simp (dsimp := false) only [go_sem, ↓reduceIte, Nat.reduceEqDiff, Nat.reduceLT, Nat.reduceAdd, Nat.reduceSub, Nat.reduceMul, Nat.reduceLeDiff, reduceCtorEq, Int.reduceNeg, Int.reduceToNat, Int.reduceLT, Int.reduceLE, Int.reduceGE, Int.reduceGT, Int.reduceEq, h1, h2, h3, h4, h5]
    simp [long6B]; omega
  simp (dsimp := false) only [go_sem, ↓reduceIte, Nat.reduceEqDiff, Nat.reduceLT, Nat.reduceAdd, Nat.reduceSub, Nat.reduceMul, Nat.reduceLeDiff, reduceCtorEq, Int.reduceNeg, Int.reduceToNat, Int.reduceLT, Int.reduceLE, Int.reduceGE, Int.reduceGT, Int.reduceEq, h1, h2, h3, h4, h5]
  simp [long6B]; omega
set_option maxHeartbeats 8000000 in
theorem TicketEncodes_pc (lt : Bool) (n i r : ByteArray) (ad k li is : Int) (s t : ByteArray) (bs : List UInt8) (hk : 0 ≤ k ∧ k ≤ 18446744073709551615) :
    PC Try.prog 6 [ticketA lt n i r ad k li is s t, .lst 1 (bs.map byteA)] (.raw (.bool true)) := by
  refine PC.of_ac ?_
  have hlong := long6_pure lt n i r ad k li is s t
  unfold ticketA at hlong ⊢
  refine AC.of_body (M := []) Try.func6 rfl (by kernel_rfl) (Nat.le_of_ble_eq_true rfl) ?_; simp only [Try.results6, Try.ntmps6]
  simp (dsimp := false) only [go_sem, ↓reduceIte, Nat.reduceEqDiff, Nat.reduceLT, Nat.reduceAdd, Nat.reduceSub, Nat.reduceMul, Nat.reduceLeDiff, reduceCtorEq, Int.reduceNeg, Int.reduceToNat, Int.reduceLT, Int.reduceLE, Int.reduceGE, Int.reduceGT, Int.reduceEq]
  refine ACs.pure awake6_pure ?_
  simp (dsimp := false) only [go_sem, ↓reduceIte, Nat.reduceEqDiff, Nat.reduceLT, Nat.reduceAdd, Nat.reduceSub, Nat.reduceMul, Nat.reduceLeDiff, reduceCtorEq, Int.reduceNeg, Int.reduceToNat, Int.reduceLT, Int.reduceLE, Int.reduceGE, Int.reduceGT, Int.reduceEq]
  refine ACs.pure hlong ?_
  rcases Bool.eq_false_or_eq_true (long6B n i r s t) with hl | hl
  · simp (dsimp := false) only [go_sem, ↓reduceIte, Nat.reduceEqDiff, Nat.reduceLT, Nat.reduceAdd, Nat.reduceSub, Nat.reduceMul, Nat.reduceLeDiff, reduceCtorEq, Int.reduceNeg, Int.reduceToNat, Int.reduceLT, Int.reduceLE, Int.reduceGE, Int.reduceGT, Int.reduceEq, hl]
  by_cases h2 : (bs.length : Int) > 40
  · simp (dsimp := false) only [go_sem, ↓reduceIte, Nat.reduceEqDiff, Nat.reduceLT, Nat.reduceAdd, Nat.reduceSub, Nat.reduceMul, Nat.reduceLeDiff, reduceCtorEq, Int.reduceNeg, Int.reduceToNat, Int.reduceLT, Int.reduceLE, Int.reduceGE, Int.reduceGT, Int.reduceEq, hl, h2]
  simp (dsimp := false) only [go_sem, ↓reduceIte, Nat.reduceEqDiff, Nat.reduceLT, Nat.reduceAdd, Nat.reduceSub, Nat.reduceMul, Nat.reduceLeDiff, reduceCtorEq, Int.reduceNeg, Int.reduceToNat, Int.reduceLT, Int.reduceLE, Int.reduceGE, Int.reduceGT, Int.reduceEq, hl, h2]
  have hz' := long6B_false hl
  obtain ⟨ad_, hA, lt', n', i', r', ad', k', li', is', s', t', hd, hok⟩ := Ticket_det bs (by omega)
  have hz := hok.size
  unfold ticketA at hd
  refine AW.loopJ (M := []) (X := Nat) (fun j => ⟨67, tmL [(1, .lst 1 (bs.map byteA)), (2, .ref (.st [.raw (.bool lt), .raw (.string n), .raw (.string i), .raw (.string r), .raw (.int .i64 ad), .raw (.int .u64 k), .raw (.int .i64 li), .raw (.int .i64 is), .raw (.string s), .raw (.string t)])), (5, .raw (.int .i64 j))], noOwn⟩)
    (fun j => j ≤ 2) (fun j => 2 - j) 0 (by decide) ?_ ?_
  · (refine Ghost.same ?_; (repeat' (first | exact all_nil | refine all_cons ?_ ?_)) <;> (first | (simp (dsimp := false) only [go_sem, ↓reduceIte, Nat.reduceEqDiff, Nat.reduceLT, Nat.reduceAdd, Nat.reduceSub, Nat.reduceMul, Nat.reduceLeDiff, reduceCtorEq, Int.reduceNeg, Int.reduceToNat, Int.reduceLT, Int.reduceLE, Int.reduceGE, Int.reduceGT, Int.reduceEq]; done) | (simp (dsimp := false) only [go_sem, ↓reduceIte, Nat.reduceEqDiff, Nat.reduceLT, Nat.reduceAdd, Nat.reduceSub, Nat.reduceMul, Nat.reduceLeDiff, reduceCtorEq, Int.reduceNeg, Int.reduceToNat, Int.reduceLT, Int.reduceLE, Int.reduceGE, Int.reduceGT, Int.reduceEq]; rfl)))
  intro j hj
  by_cases hj2 : (j : Int) < 2
  · have w1 : IntKind.i64.wrap ((j : Int) + 1) = ((j + 1 : Nat) : Int) := by rw [wrap_i64 (by omega) (by omega)]; omega
    obtain ⟨LT, N, I, R, AD, K, LI, IS, S, T, hX, hN⟩ : ∃ (LT : Bool) (N I R : ByteArray) (AD K LI IS : Int) (S T : ByteArray), [AV.st [.raw (.bool lt), .raw (.string n), .raw (.string i), .raw (.string r), .raw (.int .i64 ad), .raw (.int .u64 k), .raw (.int .i64 li), .raw (.int .i64 is), .raw (.string s), .raw (.string t)], AV.st [.raw (.bool lt'), .raw (.string n'), .raw (.string i'), .raw (.string r'), .raw (.int .i64 ad'), .raw (.int .u64 k'), .raw (.int .i64 li'), .raw (.int .i64 is'), .raw (.string s'), .raw (.string t')]].getD j .any = AV.st [.raw (.bool LT), .raw (.string N), .raw (.string I), .raw (.string R), .raw (.int .i64 AD), .raw (.int .u64 K), .raw (.int .i64 LI), .raw (.int .i64 IS), .raw (.string S), .raw (.string T)] ∧ N.size ≤ 100 ∧ I.size ≤ 100 ∧ R.size ≤ 100 ∧ S.size ≤ 100 ∧ T.size ≤ 100 ∧ 0 ≤ K ∧ K < 18446744073709551616 := by
      match j, (show j < 2 by omega) with
      | 0, _ => exact ⟨_, _, _, _, _, _, _, _, _, _, rfl, by omega, by omega, by omega, by omega, by omega, by omega, by omega⟩
      | 1, _ => exact ⟨_, _, _, _, _, _, _, _, _, _, rfl, by omega, by omega, by omega, by omega, by omega, by omega, by omega⟩
    have hE1 := tkEncode_pure LT N I R AD K LI IS S T (by omega) (by omega) (by omega) (by omega) (by omega) (by omega) (by omega)
    have hE2 := rtkEncode_pure LT N I R AD K LI IS S T (by omega) (by omega) (by omega) (by omega) (by omega) (by omega) (by omega)
    have hbl := tkB_length LT N I R AD K LI IS S T
    have hdc := @tk_dec LT N I R AD K LI IS S T
    unfold ticketA tkE at hE1 hE2
    obtain ⟨B, hB⟩ : ∃ B, tkB LT N I R AD K LI IS S T = B := ⟨_, rfl⟩
    rw [hB] at hE1 hE2 hbl hdc
    obtain ⟨E, hE⟩ : ∃ E, tkChk N I R AD K LI IS S T = E := ⟨_, rfl⟩
    rw [hE] at hE1 hE2 hdc
    simp (dsimp := false) only [go_sem, ↓reduceIte, Nat.reduceEqDiff, Nat.reduceLT, Nat.reduceAdd, Nat.reduceSub, Nat.reduceMul, Nat.reduceLeDiff, reduceCtorEq, Int.reduceNeg, Int.reduceToNat, Int.reduceLT, Int.reduceLE, Int.reduceGE, Int.reduceGT, Int.reduceEq, hj2]
    refine AW.draw (M := []) [.v, .v, .c (ad_), .v, .v, .v, .v, .e, .e] mixed (by kernel_rfl) ?_
    subst hd
    simp (dsimp := false) only [go_sem, ↓reduceIte, Nat.reduceEqDiff, Nat.reduceLT, Nat.reduceAdd, Nat.reduceSub, Nat.reduceMul, Nat.reduceLeDiff, reduceCtorEq, Int.reduceNeg, Int.reduceToNat, Int.reduceLT, Int.reduceLE, Int.reduceGE, Int.reduceGT, Int.reduceEq, hX]
    refine ⟨VSem.call rfl rfl hA, ?_⟩
    refine ⟨by omega, ?_⟩
    intro k1 hk1
    refine ACs.pure hE1 ?_
    simp (dsimp := false) only [go_sem, ↓reduceIte, Nat.reduceEqDiff, Nat.reduceLT, Nat.reduceAdd, Nat.reduceSub, Nat.reduceMul, Nat.reduceLeDiff, reduceCtorEq, Int.reduceNeg, Int.reduceToNat, Int.reduceLT, Int.reduceLE, Int.reduceGE, Int.reduceGT, Int.reduceEq]
    refine ACs.pure hE2 ?_
    by_cases h0 : E = 0
    · rw [if_pos h0]
      simp (dsimp := false) only [go_sem, ↓reduceIte, Nat.reduceEqDiff, Nat.reduceLT, Nat.reduceAdd, Nat.reduceSub, Nat.reduceMul, Nat.reduceLeDiff, reduceCtorEq, Int.reduceNeg, Int.reduceToNat, Int.reduceLT, Int.reduceLE, Int.reduceGE, Int.reduceGT, Int.reduceEq, h0, bytes_eq]
      refine ACs.pn (tkDecode_pn B (by omega)) ?_
      intro d hd
      have hd := hdc h0 ⟨by omega, by omega⟩ hd
      subst hd
      unfold ticketA
      simp (dsimp := false) only [go_sem, ↓reduceIte, Nat.reduceEqDiff, Nat.reduceLT, Nat.reduceAdd, Nat.reduceSub, Nat.reduceMul, Nat.reduceLeDiff, reduceCtorEq, Int.reduceNeg, Int.reduceToNat, Int.reduceLT, Int.reduceLE, Int.reduceGE, Int.reduceGT, Int.reduceEq]
      intro k2 hk2
      have q1 := none_ne hk2
      have q2 : ∀ (own : Own) o, (own.set k2 o) k1 = own k1 := fun own o => Own.set_ne _ _ (Ne.symm q1)
      have q3 : ∀ (own : Own) o, (own.set k1 o) k2 = own k2 := fun own o => Own.set_ne _ _ q1
      simp (dsimp := false) only [go_sem, ↓reduceIte, Nat.reduceEqDiff, Nat.reduceLT, Nat.reduceAdd, Nat.reduceSub, Nat.reduceMul, Nat.reduceLeDiff, reduceCtorEq, Int.reduceNeg, Int.reduceToNat, Int.reduceLT, Int.reduceLE, Int.reduceGE, Int.reduceGT, Int.reduceEq, q2, q3, w1]
      refine ⟨j + 1, by omega, ?_, by omega⟩
      (refine Ghost.of ?_ (fun _ _ h => by cases h); (repeat' (first | exact all_nil | refine all_cons ?_ ?_)) <;> (first | (simp (dsimp := false) only [go_sem, ↓reduceIte, Nat.reduceEqDiff, Nat.reduceLT, Nat.reduceAdd, Nat.reduceSub, Nat.reduceMul, Nat.reduceLeDiff, reduceCtorEq, Int.reduceNeg, Int.reduceToNat, Int.reduceLT, Int.reduceLE, Int.reduceGE, Int.reduceGT, Int.reduceEq]; done) | (simp (dsimp := false) only [go_sem, ↓reduceIte, Nat.reduceEqDiff, Nat.reduceLT, Nat.reduceAdd, Nat.reduceSub, Nat.reduceMul, Nat.reduceLeDiff, reduceCtorEq, Int.reduceNeg, Int.reduceToNat, Int.reduceLT, Int.reduceLE, Int.reduceGE, Int.reduceGT, Int.reduceEq]; rfl)))
    · rw [if_neg h0]
      have hbn : bytesOf [] = some [] := rfl
      simp (dsimp := false) only [go_sem, ↓reduceIte, Nat.reduceEqDiff, Nat.reduceLT, Nat.reduceAdd, Nat.reduceSub, Nat.reduceMul, Nat.reduceLeDiff, reduceCtorEq, Int.reduceNeg, Int.reduceToNat, Int.reduceLT, Int.reduceLE, Int.reduceGE, Int.reduceGT, Int.reduceEq, h0, bytes_eq, hbn, w1]
      refine ⟨j + 1, by omega, ?_, by omega⟩
      (refine Ghost.of ?_ (fun _ _ h => by cases h); (repeat' (first | exact all_nil | refine all_cons ?_ ?_)) <;> (first | (simp (dsimp := false) only [go_sem, ↓reduceIte, Nat.reduceEqDiff, Nat.reduceLT, Nat.reduceAdd, Nat.reduceSub, Nat.reduceMul, Nat.reduceLeDiff, reduceCtorEq, Int.reduceNeg, Int.reduceToNat, Int.reduceLT, Int.reduceLE, Int.reduceGE, Int.reduceGT, Int.reduceEq]; done) | (simp (dsimp := false) only [go_sem, ↓reduceIte, Nat.reduceEqDiff, Nat.reduceLT, Nat.reduceAdd, Nat.reduceSub, Nat.reduceMul, Nat.reduceLeDiff, reduceCtorEq, Int.reduceNeg, Int.reduceToNat, Int.reduceLT, Int.reduceLE, Int.reduceGE, Int.reduceGT, Int.reduceEq]; rfl)))
  · simp (dsimp := false) only [go_sem, ↓reduceIte, Nat.reduceEqDiff, Nat.reduceLT, Nat.reduceAdd, Nat.reduceSub, Nat.reduceMul, Nat.reduceLeDiff, reduceCtorEq, Int.reduceNeg, Int.reduceToNat, Int.reduceLT, Int.reduceLE, Int.reduceGE, Int.reduceGT, Int.reduceEq, hj2]
set_option maxHeartbeats 8000000 in
theorem TicketDecodes_pc (b bs : List UInt8) (how flag : Int) (hh : 0 ≤ how ∧ how ≤ 65535) (hf : 0 ≤ flag ∧ flag ≤ 255) :
    PC Try.prog 7 [.lst 1 (b.map byteA), .lst 1 (bs.map byteA), .raw (.int .u16 how), .raw (.int .u8 flag)] (.raw (.bool true)) := by
  refine PC.of_ac ?_
  refine AC.of_body (M := [34]) Try.func7 rfl (by kernel_rfl) (Nat.le_of_ble_eq_true rfl) ?_; simp only [Try.results7, Try.ntmps7]
  simp (dsimp := false) only [go_sem, ↓reduceIte, Nat.reduceEqDiff, Nat.reduceLT, Nat.reduceAdd, Nat.reduceSub, Nat.reduceMul, Nat.reduceLeDiff, reduceCtorEq, Int.reduceNeg, Int.reduceToNat, Int.reduceLT, Int.reduceLE, Int.reduceGE, Int.reduceGT, Int.reduceEq]
  refine ACs.pure awake6_pure ?_
  by_cases h1 : (b.length : Int) > 300
  · simp (dsimp := false) only [go_sem, ↓reduceIte, Nat.reduceEqDiff, Nat.reduceLT, Nat.reduceAdd, Nat.reduceSub, Nat.reduceMul, Nat.reduceLeDiff, reduceCtorEq, Int.reduceNeg, Int.reduceToNat, Int.reduceLT, Int.reduceLE, Int.reduceGE, Int.reduceGT, Int.reduceEq, h1]
  by_cases h2 : (bs.length : Int) > 40
  · simp (dsimp := false) only [go_sem, ↓reduceIte, Nat.reduceEqDiff, Nat.reduceLT, Nat.reduceAdd, Nat.reduceSub, Nat.reduceMul, Nat.reduceLeDiff, reduceCtorEq, Int.reduceNeg, Int.reduceToNat, Int.reduceLT, Int.reduceLE, Int.reduceGE, Int.reduceGT, Int.reduceEq, h1, h2]
  simp (dsimp := false) only [go_sem, ↓reduceIte, Nat.reduceEqDiff, Nat.reduceLT, Nat.reduceAdd, Nat.reduceSub, Nat.reduceMul, Nat.reduceLeDiff, reduceCtorEq, Int.reduceNeg, Int.reduceToNat, Int.reduceLT, Int.reduceLE, Int.reduceGE, Int.reduceGT, Int.reduceEq, h1, h2]
  obtain ⟨ad_, hA, lt', n', i', r', ad', k', li', is', s', t', hd, hok⟩ := Ticket_det bs (by omega)
  have hz := hok.size
  have hE := rtkEncode_pure lt' n' i' r' ad' k' li' is' s' t' (by omega) (by omega) (by omega) (by omega) (by omega) (by omega) (by omega)
  have hl := tkB_length lt' n' i' r' ad' k' li' is' s' t'
  have hl0 := (tkB_flag lt' n' i' r' ad' k' li' is' s' t').2
  rw [tkE, hok.chk, if_pos rfl] at hE
  obtain ⟨cb, hcb⟩ : ∃ cb, tkB lt' n' i' r' ad' k' li' is' s' t' = cb := ⟨_, rfl⟩
  rw [hcb] at hE hl hl0
  subst hd
  refine ACs.pure hA ?_
  unfold ticketA at hE ⊢
  simp (dsimp := false) only [go_sem, ↓reduceIte, Nat.reduceEqDiff, Nat.reduceLT, Nat.reduceAdd, Nat.reduceSub, Nat.reduceMul, Nat.reduceLeDiff, reduceCtorEq, Int.reduceNeg, Int.reduceToNat, Int.reduceLT, Int.reduceLE, Int.reduceGE, Int.reduceGT, Int.reduceEq]
  refine ACs.pure hE ?_
  have hokb := okA_bytes cb
  have hfb : AV.raw (.int .u8 (flag.tmod 4)) = byteA (u8 (flag.tmod 4)) := by
    unfold byteA
    rw [show ((u8 (flag.tmod 4)).toNat : Int) = flag.tmod 4 by rw [u8_toNat, Int.tmod_eq_emod_of_nonneg hf.1]; omega]
  simp (dsimp := false) only [go_sem, ↓reduceIte, Nat.reduceEqDiff, Nat.reduceLT, Nat.reduceAdd, Nat.reduceSub, Nat.reduceMul, Nat.reduceLeDiff, reduceCtorEq, Int.reduceNeg, Int.reduceToNat, Int.reduceLT, Int.reduceLE, Int.reduceGE, Int.reduceGT, Int.reduceEq]
  intro k hk
  have hmv := fun k' o o' => Own.set_move hk k' o o'
  refine ⟨hokb, by omega, by omega, fun k' c' hk' hc' => ?_⟩
  simp (dsimp := false) only [go_sem, ↓reduceIte, Nat.reduceEqDiff, Nat.reduceLT, Nat.reduceAdd, Nat.reduceSub, Nat.reduceMul, Nat.reduceLeDiff, reduceCtorEq, Int.reduceNeg, Int.reduceToNat, Int.reduceLT, Int.reduceLE, Int.reduceGE, Int.reduceGT, Int.reduceEq, hmv, flat_byte]
  refine ⟨by omega, by omega, ?_⟩
  refine AW.ghost (Ghost.slot (t := 11) (rowW _ k' c' c' cb.length (cb.set 0 (u8 (flag.tmod 4))) [] (by rw [List.append_nil, ← set_byte, ← hfb]; exact Own.set_same _ _ _) (by simp) (by omega) (by omega))) ?_
  obtain ⟨db, hdb⟩ : ∃ db, cb.set 0 (u8 (flag.tmod 4)) = db := ⟨_, rfl⟩
  have hdl : db.length = cb.length := by rw [← hdb]; simp
  rw [hdb]
  refine AW.loopJ (M := []) (X := Nat) (fun j => ⟨73, tmL [(0, .lst 1 (b.map byteA)), (2, .raw (.int .u16 how)), (9, .lst 1 (cb.map byteA)), (11, .lst 1 (db.map byteA)), (12, .raw (.int .i64 j))], noOwn⟩)
    (fun j => j ≤ 4) (fun j => 4 - j) 0 (by decide) ?_ ?_
  · (refine Ghost.of ?_ (fun _ _ h => by cases h); (repeat' (first | exact all_nil | refine all_cons ?_ ?_)) <;> (first | (simp (dsimp := false) only [go_sem, ↓reduceIte, Nat.reduceEqDiff, Nat.reduceLT, Nat.reduceAdd, Nat.reduceSub, Nat.reduceMul, Nat.reduceLeDiff, reduceCtorEq, Int.reduceNeg, Int.reduceToNat, Int.reduceLT, Int.reduceLE, Int.reduceGE, Int.reduceGT, Int.reduceEq]; done) | (simp (dsimp := false) only [go_sem, ↓reduceIte, Nat.reduceEqDiff, Nat.reduceLT, Nat.reduceAdd, Nat.reduceSub, Nat.reduceMul, Nat.reduceLeDiff, reduceCtorEq, Int.reduceNeg, Int.reduceToNat, Int.reduceLT, Int.reduceLE, Int.reduceGE, Int.reduceGT, Int.reduceEq]; rfl)))
  intro j hj
  by_cases hj4 : (j : Int) < 4
  · have e1 : IntKind.i64.wrap ((j : Int) + 1) = ((j + 1 : Nat) : Int) := by rw [wrap_i64 (by omega) (by omega)]; omega
    simp (dsimp := false) only [go_sem, ↓reduceIte, Nat.reduceEqDiff, Nat.reduceLT, Nat.reduceAdd, Nat.reduceSub, Nat.reduceMul, Nat.reduceLeDiff, reduceCtorEq, Int.reduceNeg, Int.reduceToNat, Int.reduceLT, Int.reduceLE, Int.reduceGE, Int.reduceGT, Int.reduceEq, hj4]
    refine ACs.pn (Spoil_pn cb how (by omega) hh.1 hh.2) ?_
    rintro _ ⟨x, rfl, hxl⟩
    obtain ⟨y, hy, hyl⟩ : ∃ y : List UInt8, [AV.lst 1 (b.map byteA), .lst 1 (cb.map byteA), .lst 1 (x.map byteA), .lst 1 (db.map byteA)].getD j .any = .lst 1 (y.map byteA) ∧ y.length ≤ 100000 := by
      match j, (show j < 4 by omega) with
      | 0, _ => exact ⟨b, rfl, by omega⟩
      | 1, _ => exact ⟨cb, rfl, by omega⟩
      | 2, _ => exact ⟨x, rfl, by omega⟩
      | 3, _ => exact ⟨db, rfl, by omega⟩
    simp (dsimp := false) only [go_sem, ↓reduceIte, Nat.reduceEqDiff, Nat.reduceLT, Nat.reduceAdd, Nat.reduceSub, Nat.reduceMul, Nat.reduceLeDiff, reduceCtorEq, Int.reduceNeg, Int.reduceToNat, Int.reduceLT, Int.reduceLE, Int.reduceGE, Int.reduceGT, Int.reduceEq, hy]
    refine ⟨by omega, ?_⟩
    refine ACs.pn (tkDecode_pn y (by omega)) ?_
    intro d hd
    obtain ⟨_, _, _, _, _, _, _, _, _, _, _, rfl⟩ := hd.form
    unfold ticketA
    simp (dsimp := false) only [go_sem, ↓reduceIte, Nat.reduceEqDiff, Nat.reduceLT, Nat.reduceAdd, Nat.reduceSub, Nat.reduceMul, Nat.reduceLeDiff, reduceCtorEq, Int.reduceNeg, Int.reduceToNat, Int.reduceLT, Int.reduceLE, Int.reduceGE, Int.reduceGT, Int.reduceEq]
    intro k1 hk1
    refine ACs.pn (rtkDecode_pn y (by omega)) ?_
    intro d' hd'
    obtain rfl := hd'.unique hd
    unfold ticketA
    simp (dsimp := false) only [go_sem, ↓reduceIte, Nat.reduceEqDiff, Nat.reduceLT, Nat.reduceAdd, Nat.reduceSub, Nat.reduceMul, Nat.reduceLeDiff, reduceCtorEq, Int.reduceNeg, Int.reduceToNat, Int.reduceLT, Int.reduceLE, Int.reduceGE, Int.reduceGT, Int.reduceEq]
    intro k2 hk2
    have q := none_ne hk2
    have a1 : ∀ (own : Own) o, (own.set k2 o) k1 = own k1 := fun own o => Own.set_ne _ _ (Ne.symm q)
    have a2 : ∀ (own : Own) o, (own.set k1 o) k2 = own k2 := fun own o => Own.set_ne _ _ q
    simp (dsimp := false) only [go_sem, ↓reduceIte, Nat.reduceEqDiff, Nat.reduceLT, Nat.reduceAdd, Nat.reduceSub, Nat.reduceMul, Nat.reduceLeDiff, reduceCtorEq, Int.reduceNeg, Int.reduceToNat, Int.reduceLT, Int.reduceLE, Int.reduceGE, Int.reduceGT, Int.reduceEq, a1, a2, e1]
    refine ⟨j + 1, by omega, ?_, by omega⟩
    (refine Ghost.of ?_ (fun _ _ h => by cases h); (repeat' (first | exact all_nil | refine all_cons ?_ ?_)) <;> (first | (simp (dsimp := false) only [go_sem, ↓reduceIte, Nat.reduceEqDiff, Nat.reduceLT, Nat.reduceAdd, Nat.reduceSub, Nat.reduceMul, Nat.reduceLeDiff, reduceCtorEq, Int.reduceNeg, Int.reduceToNat, Int.reduceLT, Int.reduceLE, Int.reduceGE, Int.reduceGT, Int.reduceEq]; done) | (simp (dsimp := false) only [go_sem, ↓reduceIte, Nat.reduceEqDiff, Nat.reduceLT, Nat.reduceAdd, Nat.reduceSub, Nat.reduceMul, Nat.reduceLeDiff, reduceCtorEq, Int.reduceNeg, Int.reduceToNat, Int.reduceLT, Int.reduceLE, Int.reduceGE, Int.reduceGT, Int.reduceEq]; rfl)))
  · simp (dsimp := false) only [go_sem, ↓reduceIte, Nat.reduceEqDiff, Nat.reduceLT, Nat.reduceAdd, Nat.reduceSub, Nat.reduceMul, Nat.reduceLeDiff, reduceCtorEq, Int.reduceNeg, Int.reduceToNat, Int.reduceLT, Int.reduceLE, Int.reduceGE, Int.reduceGT, Int.reduceEq, hj4]
end Go.Proofs.Ytaokfnfaipdpdaa.Fn
