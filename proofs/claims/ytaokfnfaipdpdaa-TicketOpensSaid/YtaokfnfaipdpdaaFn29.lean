/- The laws on sealed authenticators. -/
import Derived.Test.YtaokfnfaipdpdaaFn28
set_option linter.unusedVariables false
set_option linter.unusedSimpArgs false
namespace Go.Proofs.Ytaokfnfaipdpdaa.Fn
open Go Hl Sp Ty
set_option maxRecDepth 100000
set_option maxHeartbeats 4000000 in
theorem AuthenticatorSeals_pc (n i r : ByteArray) (c t m : Int) (bs : List UInt8) (k nn : Int) (b : List UInt8) (little : Bool) (how : Int) (hk : 0 ≤ k ∧ k ≤ 18446744073709551615) (hnn : 0 ≤ nn ∧ nn ≤ 255) (hh : 0 ≤ how ∧ how ≤ 65535) :
    PC Try.prog 4 [authA n i r c t m, .lst 1 (bs.map byteA), .raw (.int .u64 k), .raw (.int .u8 nn), .lst 1 (b.map byteA), .raw (.bool little), .raw (.int .u16 how)] (.raw (.bool true)) := by
  refine PC.of_ac ?_
  have hlong := long7_pure n i r c t m
  unfold authA at hlong ⊢
  refine AC.of_body (M := []) Try.func4 rfl (by kernel_rfl) (Nat.le_of_ble_eq_true rfl) ?_; simp only [Try.results4, Try.ntmps4]
  simp (dsimp := false) only [go_sem, ↓reduceIte, Nat.reduceEqDiff, Nat.reduceLT, Nat.reduceAdd, Nat.reduceSub, Nat.reduceMul, Nat.reduceLeDiff, reduceCtorEq, Int.reduceNeg, Int.reduceToNat, Int.reduceLT, Int.reduceLE, Int.reduceGE, Int.reduceGT, Int.reduceEq]
  refine ACs.pure awake7_pure ?_
  simp (dsimp := false) only [go_sem, ↓reduceIte, Nat.reduceEqDiff, Nat.reduceLT, Nat.reduceAdd, Nat.reduceSub, Nat.reduceMul, Nat.reduceLeDiff, reduceCtorEq, Int.reduceNeg, Int.reduceToNat, Int.reduceLT, Int.reduceLE, Int.reduceGE, Int.reduceGT, Int.reduceEq]
  refine ACs.pure hlong ?_
  rcases Bool.eq_false_or_eq_true (longB n i r) with hl | hl
  · simp (dsimp := false) only [go_sem, ↓reduceIte, Nat.reduceEqDiff, Nat.reduceLT, Nat.reduceAdd, Nat.reduceSub, Nat.reduceMul, Nat.reduceLeDiff, reduceCtorEq, Int.reduceNeg, Int.reduceToNat, Int.reduceLT, Int.reduceLE, Int.reduceGE, Int.reduceGT, Int.reduceEq, hl]
  by_cases h1 : (bs.length : Int) > 40
  · simp (dsimp := false) only [go_sem, ↓reduceIte, Nat.reduceEqDiff, Nat.reduceLT, Nat.reduceAdd, Nat.reduceSub, Nat.reduceMul, Nat.reduceLeDiff, reduceCtorEq, Int.reduceNeg, Int.reduceToNat, Int.reduceLT, Int.reduceLE, Int.reduceGE, Int.reduceGT, Int.reduceEq, hl, h1]
  by_cases h2 : (b.length : Int) > 400
  · simp (dsimp := false) only [go_sem, ↓reduceIte, Nat.reduceEqDiff, Nat.reduceLT, Nat.reduceAdd, Nat.reduceSub, Nat.reduceMul, Nat.reduceLeDiff, reduceCtorEq, Int.reduceNeg, Int.reduceToNat, Int.reduceLT, Int.reduceLE, Int.reduceGE, Int.reduceGT, Int.reduceEq, hl, h1, h2]
  simp (dsimp := false) only [go_sem, ↓reduceIte, Nat.reduceEqDiff, Nat.reduceLT, Nat.reduceAdd, Nat.reduceSub, Nat.reduceMul, Nat.reduceLeDiff, reduceCtorEq, Int.reduceNeg, Int.reduceToNat, Int.reduceLT, Int.reduceLE, Int.reduceGE, Int.reduceGT, Int.reduceEq, hl, h1, h2]
  have hz' := longB_false hl
  obtain ⟨ad, hA, n', i', r', c', t', m', hd, hok⟩ := Auth_det bs (by omega)
  have hz := validB_size hok.1
  unfold authA at hd
  have w0 : IntKind.i64.wrap nn = nn := wrap_i64 (by omega) (by omega)
  refine AW.loopJ (M := []) (X := Nat) (fun j => ⟨122, tmL [(1, .lst 1 (bs.map byteA)), (2, .raw (.int .u64 k)), (3, .raw (.int .u8 nn)), (4, .lst 1 (b.map byteA)), (5, .raw (.bool little)), (6, .raw (.int .u16 how)), (7, .ref (.st [.raw (.string n), .raw (.string i), .raw (.string r), .raw (.int .i64 c), .raw (.int .i64 t), .raw (.int .i64 m)])), (15, .raw (.int .i64 j))], noOwn⟩)
    (fun j => j ≤ 4) (fun j => 4 - j) 0 (by decide) ?_ ?_
  · (refine Ghost.of ?_ (fun _ _ h => by cases h); (repeat' (first | exact all_nil | refine all_cons ?_ ?_)) <;> (first | (simp (dsimp := false) only [go_sem, ↓reduceIte, Nat.reduceEqDiff, Nat.reduceLT, Nat.reduceAdd, Nat.reduceSub, Nat.reduceMul, Nat.reduceLeDiff, reduceCtorEq, Int.reduceNeg, Int.reduceToNat, Int.reduceLT, Int.reduceLE, Int.reduceGE, Int.reduceGT, Int.reduceEq]; done) | (simp (dsimp := false) only [go_sem, ↓reduceIte, Nat.reduceEqDiff, Nat.reduceLT, Nat.reduceAdd, Nat.reduceSub, Nat.reduceMul, Nat.reduceLeDiff, reduceCtorEq, Int.reduceNeg, Int.reduceToNat, Int.reduceLT, Int.reduceLE, Int.reduceGE, Int.reduceGT, Int.reduceEq]; rfl)))
  intro j hj
  by_cases hj4 : (j : Int) < 4
  · have e1 : IntKind.i64.wrap ((j : Int) + 1) = ((j + 1 : Nat) : Int) := by rw [wrap_i64 (by omega) (by omega)]; omega
    have e2 : IntKind.i64.wrap ((j : Int).tdiv 2) = ((j / 2 : Nat) : Int) := by rw [Int.tdiv_eq_ediv_of_nonneg (by omega), wrap_i64 (by omega) (by omega)]; omega
    have e3 : (j : Int).tmod 2 = ((j % 2 : Nat) : Int) := by rw [Int.tmod_eq_emod_of_nonneg (by omega)]; omega
    obtain ⟨N, I, R, C, T, M, hX, hNs⟩ : ∃ (N I R : ByteArray) (C T M : Int), [AV.st [.raw (.string n), .raw (.string i), .raw (.string r), .raw (.int .i64 c), .raw (.int .i64 t), .raw (.int .i64 m)], AV.st [.raw (.string n'), .raw (.string i'), .raw (.string r'), .raw (.int .i64 c'), .raw (.int .i64 t'), .raw (.int .i64 m')]].getD (j / 2) .any = AV.st [.raw (.string N), .raw (.string I), .raw (.string R), .raw (.int .i64 C), .raw (.int .i64 T), .raw (.int .i64 M)] ∧ N.size ≤ 100 ∧ I.size ≤ 100 ∧ R.size ≤ 100 := by
      obtain ⟨q, hq⟩ : ∃ q, j / 2 = q := ⟨_, rfl⟩
      rw [hq]
      match q, (show q < 2 by omega) with
      | 0, _ => exact ⟨_, _, _, _, _, _, rfl, hz'⟩
      | 1, _ => exact ⟨_, _, _, _, _, _, rfl, by omega, by omega, by omega⟩
    obtain ⟨Y, hY, hY0, hY1⟩ : ∃ Y : Int, [AV.raw (.int .u64 k), AV.raw (.int .u64 (144115188075855873 + nn))].getD (j % 2) .any = .raw (.int .u64 Y) ∧ 0 ≤ Y ∧ Y < 18446744073709551616 := by
      obtain ⟨q, hq⟩ : ∃ q, j % 2 = q := ⟨_, rfl⟩
      rw [hq]
      match q, (show q < 2 by omega) with
      | 0, _ => exact ⟨_, rfl, by omega, by omega⟩
      | 1, _ => exact ⟨_, rfl, by omega, by omega⟩
    have hS1 := authSeal_pure N I R C T M little Y (by omega) (by omega) (by omega) hY0 hY1
    have hS2 := rauthSeal_pure N I R C T M little Y (by omega) (by omega) (by omega) hY0 hY1
    obtain ⟨x, e, hxe, hxl⟩ := sealA_form N I R C T M little Y (by omega) (by omega) (by omega)
    rw [hxe] at hS1 hS2
    unfold authA at hS1 hS2
    simp (dsimp := false) only [go_sem, ↓reduceIte, Nat.reduceEqDiff, Nat.reduceLT, Nat.reduceAdd, Nat.reduceSub, Nat.reduceMul, Nat.reduceLeDiff, reduceCtorEq, Int.reduceNeg, Int.reduceToNat, Int.reduceLT, Int.reduceLE, Int.reduceGE, Int.reduceGT, Int.reduceEq, hj4]
    refine AW.draw (M := []) [.v, .v, .c (ad), .v, .v, .v, .v, .v, .e, .e] mixed (by kernel_rfl) ?_
    subst hd
    simp (dsimp := false) only [go_sem, ↓reduceIte, Nat.reduceEqDiff, Nat.reduceLT, Nat.reduceAdd, Nat.reduceSub, Nat.reduceMul, Nat.reduceLeDiff, reduceCtorEq, Int.reduceNeg, Int.reduceToNat, Int.reduceLT, Int.reduceLE, Int.reduceGE, Int.reduceGT, Int.reduceEq, e2, hX, w0]
    refine ⟨VSem.call rfl rfl hA, ?_⟩
    refine ⟨by omega, ?_⟩
    intro k1 hk1
    refine ACs.pure (Session_pure nn hnn.1 (by omega)) ?_
    simp (dsimp := false) only [go_sem, ↓reduceIte, Nat.reduceEqDiff, Nat.reduceLT, Nat.reduceAdd, Nat.reduceSub, Nat.reduceMul, Nat.reduceLeDiff, reduceCtorEq, Int.reduceNeg, Int.reduceToNat, Int.reduceLT, Int.reduceLE, Int.reduceGE, Int.reduceGT, Int.reduceEq, e3, hY]
    refine ⟨by omega, ?_⟩
    refine ACs.pure hS1 ?_
    simp (dsimp := false) only [go_sem, ↓reduceIte, Nat.reduceEqDiff, Nat.reduceLT, Nat.reduceAdd, Nat.reduceSub, Nat.reduceMul, Nat.reduceLeDiff, reduceCtorEq, Int.reduceNeg, Int.reduceToNat, Int.reduceLT, Int.reduceLE, Int.reduceGE, Int.reduceGT, Int.reduceEq]
    refine ACs.pure hS2 ?_
    simp (dsimp := false) only [go_sem, ↓reduceIte, Nat.reduceEqDiff, Nat.reduceLT, Nat.reduceAdd, Nat.reduceSub, Nat.reduceMul, Nat.reduceLeDiff, reduceCtorEq, Int.reduceNeg, Int.reduceToNat, Int.reduceLT, Int.reduceLE, Int.reduceGE, Int.reduceGT, Int.reduceEq, bytes_eq]
    refine AW.loopJ (M := []) (X := Nat) (fun q => ⟨122, tmL [(1, .lst 1 (bs.map byteA)), (2, .raw (.int .u64 k)), (3, .raw (.int .u8 nn)), (4, .lst 1 (b.map byteA)), (5, .raw (.bool little)), (6, .raw (.int .u16 how)), (7, .ref (.st [.raw (.string n), .raw (.string i), .raw (.string r), .raw (.int .i64 c), .raw (.int .i64 t), .raw (.int .i64 m)])), (15, .raw (.int .i64 j)), (17, .raw (.int .u64 Y)), (20, .lst 1 (x.map byteA)), (22, .raw (.int .i64 q))], noOwn⟩)
      (fun q => q ≤ 3) (fun q => 3 - q) 0 (by decide) ?_ ?_
    · (refine Ghost.of ?_ (fun _ _ h => by cases h); (repeat' (first | exact all_nil | refine all_cons ?_ ?_)) <;> (first | (simp (dsimp := false) only [go_sem, ↓reduceIte, Nat.reduceEqDiff, Nat.reduceLT, Nat.reduceAdd, Nat.reduceSub, Nat.reduceMul, Nat.reduceLeDiff, reduceCtorEq, Int.reduceNeg, Int.reduceToNat, Int.reduceLT, Int.reduceLE, Int.reduceGE, Int.reduceGT, Int.reduceEq]; done) | (simp (dsimp := false) only [go_sem, ↓reduceIte, Nat.reduceEqDiff, Nat.reduceLT, Nat.reduceAdd, Nat.reduceSub, Nat.reduceMul, Nat.reduceLeDiff, reduceCtorEq, Int.reduceNeg, Int.reduceToNat, Int.reduceLT, Int.reduceLE, Int.reduceGE, Int.reduceGT, Int.reduceEq]; rfl)))
    intro q hq
    by_cases hq3 : (q : Int) < 3
    · have e4 : IntKind.i64.wrap ((q : Int) + 1) = ((q + 1 : Nat) : Int) := by rw [wrap_i64 (by omega) (by omega)]; omega
      simp (dsimp := false) only [go_sem, ↓reduceIte, Nat.reduceEqDiff, Nat.reduceLT, Nat.reduceAdd, Nat.reduceSub, Nat.reduceMul, Nat.reduceLeDiff, reduceCtorEq, Int.reduceNeg, Int.reduceToNat, Int.reduceLT, Int.reduceLE, Int.reduceGE, Int.reduceGT, Int.reduceEq, hq3]
      refine ACs.pn (Spoil_pn x how (by omega) hh.1 hh.2) ?_
      rintro _ ⟨z, rfl, hzl⟩
      obtain ⟨y, hy, hyl⟩ : ∃ y : List UInt8, [AV.lst 1 (b.map byteA), .lst 1 (x.map byteA), .lst 1 (z.map byteA)].getD q .any = .lst 1 (y.map byteA) ∧ y.length ≤ 100000 := by
        match q, (show q < 3 by omega) with
        | 0, _ => exact ⟨b, rfl, by omega⟩
        | 1, _ => exact ⟨x, rfl, by omega⟩
        | 2, _ => exact ⟨z, rfl, by omega⟩
      simp (dsimp := false) only [go_sem, ↓reduceIte, Nat.reduceEqDiff, Nat.reduceLT, Nat.reduceAdd, Nat.reduceSub, Nat.reduceMul, Nat.reduceLeDiff, reduceCtorEq, Int.reduceNeg, Int.reduceToNat, Int.reduceLT, Int.reduceLE, Int.reduceGE, Int.reduceGT, Int.reduceEq, hy]
      refine ⟨by omega, ?_⟩
      refine ACs.pn (authOpen_pn y little Y (by omega)) ?_
      intro d hd
      obtain ⟨n1, i1, r1, c1, t1, m1, e', rfl⟩ := hd.form
      unfold authA
      simp (dsimp := false) only [go_sem, ↓reduceIte, Nat.reduceEqDiff, Nat.reduceLT, Nat.reduceAdd, Nat.reduceSub, Nat.reduceMul, Nat.reduceLeDiff, reduceCtorEq, Int.reduceNeg, Int.reduceToNat, Int.reduceLT, Int.reduceLE, Int.reduceGE, Int.reduceGT, Int.reduceEq]
      intro k2 hk2
      refine ACs.pn (rauthOpen_pn y little Y (by omega)) ?_
      intro d' hd'
      obtain rfl := hd'.unique hd
      unfold authA
      simp (dsimp := false) only [go_sem, ↓reduceIte, Nat.reduceEqDiff, Nat.reduceLT, Nat.reduceAdd, Nat.reduceSub, Nat.reduceMul, Nat.reduceLeDiff, reduceCtorEq, Int.reduceNeg, Int.reduceToNat, Int.reduceLT, Int.reduceLE, Int.reduceGE, Int.reduceGT, Int.reduceEq]
      intro k3 hk3
      have q1 := none_ne hk3
      have a1 : ∀ (own : Own) o, (own.set k3 o) k2 = own k2 := fun own o => Own.set_ne _ _ (Ne.symm q1)
      have a2 : ∀ (own : Own) o, (own.set k2 o) k3 = own k3 := fun own o => Own.set_ne _ _ q1
      simp (dsimp := false) only [go_sem, ↓reduceIte, Nat.reduceEqDiff, Nat.reduceLT, Nat.reduceAdd, Nat.reduceSub, Nat.reduceMul, Nat.reduceLeDiff, reduceCtorEq, Int.reduceNeg, Int.reduceToNat, Int.reduceLT, Int.reduceLE, Int.reduceGE, Int.reduceGT, Int.reduceEq, a1, a2, e4]
      refine ⟨q + 1, by omega, ?_, by omega⟩
      (refine Ghost.of ?_ (fun _ _ h => by cases h); (repeat' (first | exact all_nil | refine all_cons ?_ ?_)) <;> (first | (simp (dsimp := false) only [go_sem, ↓reduceIte, Nat.reduceEqDiff, Nat.reduceLT, Nat.reduceAdd, Nat.reduceSub, Nat.reduceMul, Nat.reduceLeDiff, reduceCtorEq, Int.reduceNeg, Int.reduceToNat, Int.reduceLT, Int.reduceLE, Int.reduceGE, Int.reduceGT, Int.reduceEq]; done) | (simp (dsimp := false) only [go_sem, ↓reduceIte, Nat.reduceEqDiff, Nat.reduceLT, Nat.reduceAdd, Nat.reduceSub, Nat.reduceMul, Nat.reduceLeDiff, reduceCtorEq, Int.reduceNeg, Int.reduceToNat, Int.reduceLT, Int.reduceLE, Int.reduceGE, Int.reduceGT, Int.reduceEq]; rfl)))
    · simp (dsimp := false) only [go_sem, ↓reduceIte, Nat.reduceEqDiff, Nat.reduceLT, Nat.reduceAdd, Nat.reduceSub, Nat.reduceMul, Nat.reduceLeDiff, reduceCtorEq, Int.reduceNeg, Int.reduceToNat, Int.reduceLT, Int.reduceLE, Int.reduceGE, Int.reduceGT, Int.reduceEq, hq3, e1]
      refine ⟨j + 1, by omega, ?_, by omega⟩
      (refine Ghost.of ?_ (fun _ _ h => by cases h); (repeat' (first | exact all_nil | refine all_cons ?_ ?_)) <;> (first | (simp (dsimp := false) only [go_sem, ↓reduceIte, Nat.reduceEqDiff, Nat.reduceLT, Nat.reduceAdd, Nat.reduceSub, Nat.reduceMul, Nat.reduceLeDiff, reduceCtorEq, Int.reduceNeg, Int.reduceToNat, Int.reduceLT, Int.reduceLE, Int.reduceGE, Int.reduceGT, Int.reduceEq]; done) | (simp (dsimp := false) only [go_sem, ↓reduceIte, Nat.reduceEqDiff, Nat.reduceLT, Nat.reduceAdd, Nat.reduceSub, Nat.reduceMul, Nat.reduceLeDiff, reduceCtorEq, Int.reduceNeg, Int.reduceToNat, Int.reduceLT, Int.reduceLE, Int.reduceGE, Int.reduceGT, Int.reduceEq]; rfl)))
  · simp (dsimp := false) only [go_sem, ↓reduceIte, Nat.reduceEqDiff, Nat.reduceLT, Nat.reduceAdd, Nat.reduceSub, Nat.reduceMul, Nat.reduceLeDiff, reduceCtorEq, Int.reduceNeg, Int.reduceToNat, Int.reduceLT, Int.reduceLE, Int.reduceGE, Int.reduceGT, Int.reduceEq, hj4]
set_option maxHeartbeats 4000000 in
theorem AuthenticatorBinds_pc (bs : List UInt8) (n m : Int) (little other : Bool) (hn : 0 ≤ n ∧ n ≤ 255) (hm : 0 ≤ m ∧ m ≤ 255) :
    PC Try.prog 5 [.lst 1 (bs.map byteA), .raw (.int .u8 n), .raw (.int .u8 m), .raw (.bool little), .raw (.bool other)] (.raw (.bool true)) := by
  refine PC.of_ac ?_
  have w0 : IntKind.i64.wrap n = n := wrap_i64 (by omega) (by omega)
  have w1 : IntKind.i64.wrap m = m := wrap_i64 (by omega) (by omega)
  refine AC.of_body (M := []) Try.func5 rfl (by kernel_rfl) (Nat.le_of_ble_eq_true rfl) ?_; simp only [Try.results5, Try.ntmps5]
  simp (dsimp := false) only [go_sem, ↓reduceIte, Nat.reduceEqDiff, Nat.reduceLT, Nat.reduceAdd, Nat.reduceSub, Nat.reduceMul, Nat.reduceLeDiff, reduceCtorEq, Int.reduceNeg, Int.reduceToNat, Int.reduceLT, Int.reduceLE, Int.reduceGE, Int.reduceGT, Int.reduceEq]
  refine ACs.pure awake7_pure ?_
  by_cases h1 : (bs.length : Int) > 40
  · simp (dsimp := false) only [go_sem, ↓reduceIte, Nat.reduceEqDiff, Nat.reduceLT, Nat.reduceAdd, Nat.reduceSub, Nat.reduceMul, Nat.reduceLeDiff, reduceCtorEq, Int.reduceNeg, Int.reduceToNat, Int.reduceLT, Int.reduceLE, Int.reduceGE, Int.reduceGT, Int.reduceEq, h1]
  simp (dsimp := false) only [go_sem, ↓reduceIte, Nat.reduceEqDiff, Nat.reduceLT, Nat.reduceAdd, Nat.reduceSub, Nat.reduceMul, Nat.reduceLeDiff, reduceCtorEq, Int.reduceNeg, Int.reduceToNat, Int.reduceLT, Int.reduceLE, Int.reduceGE, Int.reduceGT, Int.reduceEq, h1]
  refine ACs.pn (Auth_pn bs (by omega)) ?_
  rintro _ ⟨N, I, R, C, T, M, rfl, hok⟩
  have hz := validB_size hok.1
  have hl := authB_length N I R C T M little
  have hS := authSeal_pure N I R C T M little (144115188075855873 + n) (by omega) (by omega) (by omega) (by omega) (by omega)
  have hcl := cls_session (n := n) hn.1 (by omega)
  have hE : boxE 2 (144115188075855873 + n) (authB N I R C T M little) = 0 := by
    unfold boxE; rw [if_neg (by decide), if_neg (by rw [hcl]; decide), if_neg (by omega)]
  rw [sealA, if_pos hok.chk, boxM, hE, if_pos rfl] at hS
  have hob := openR_box 2 (144115188075855873 + n) (144115188075855873 + m) (authB N I R C T M little) (by decide) (by rw [hcl]; decide) (by omega) (by omega) (by omega)
  have hbl : (boxB 2 (144115188075855873 + n) (authB N I R C T M little)).length ≤ 1000 := by
    simp only [boxB, List.length_append, numB_length, List.length_cons, List.length_nil]; omega
  obtain ⟨x, hx⟩ : ∃ x, boxB 2 (144115188075855873 + n) (authB N I R C T M little) = x := ⟨_, rfl⟩
  rw [hx] at hS hob hbl
  unfold authA at hS ⊢
  simp (dsimp := false) only [go_sem, ↓reduceIte, Nat.reduceEqDiff, Nat.reduceLT, Nat.reduceAdd, Nat.reduceSub, Nat.reduceMul, Nat.reduceLeDiff, reduceCtorEq, Int.reduceNeg, Int.reduceToNat, Int.reduceLT, Int.reduceLE, Int.reduceGE, Int.reduceGT, Int.reduceEq]
  intro k1 hk1
  obtain ⟨sv, hsv⟩ : ∃ d, d = AV.raw (.int .u64 (144115188075855873 + n)) := ⟨_, rfl⟩
  refine AW.draw (M := []) [.r, .v, .v, .v, .c (sv), .e, .v, .v, .v, .v, .v] mixed (by kernel_rfl) ?_
  subst hsv
  have hSn : ∀ q, q = n → PC Try.prog 21 [.raw (.int .i64 q)] (.raw (.int .u64 (144115188075855873 + n))) := fun q h => h ▸ Session_pure n hn.1 (by omega)
  simp (dsimp := false) only [go_sem, ↓reduceIte, Nat.reduceEqDiff, Nat.reduceLT, Nat.reduceAdd, Nat.reduceSub, Nat.reduceMul, Nat.reduceLeDiff, reduceCtorEq, Int.reduceNeg, Int.reduceToNat, Int.reduceLT, Int.reduceLE, Int.reduceGE, Int.reduceGT, Int.reduceEq, w0]
  refine ⟨VSem.call rfl rfl (hSn _ (by first | rfl | exact w0)), ?_⟩
  refine ACs.pure hS ?_
  simp (dsimp := false) only [go_sem, ↓reduceIte, Nat.reduceEqDiff, Nat.reduceLT, Nat.reduceAdd, Nat.reduceSub, Nat.reduceMul, Nat.reduceLeDiff, reduceCtorEq, Int.reduceNeg, Int.reduceToNat, Int.reduceLT, Int.reduceLE, Int.reduceGE, Int.reduceGT, Int.reduceEq, w1]
  refine ACs.pure (Session_pure m hm.1 (by omega)) ?_
  simp (dsimp := false) only [go_sem, ↓reduceIte, Nat.reduceEqDiff, Nat.reduceLT, Nat.reduceAdd, Nat.reduceSub, Nat.reduceMul, Nat.reduceLeDiff, reduceCtorEq, Int.reduceNeg, Int.reduceToNat, Int.reduceLT, Int.reduceLE, Int.reduceGE, Int.reduceGT, Int.reduceEq]
  refine ACs.pn (authOpen_pn x other _ (by omega)) ?_
  intro d hd
  by_cases hnm : n = m
  · subst hnm
    rw [if_pos rfl] at hob
    by_cases hlo : little = other
    · subst hlo
      have hd2 : d = .tup [authA N I R C T M, .raw (.int .i64 0)] := hd.unique (.inl ⟨_, hob, _, _, _, _, _, _, ⟨hok, rfl⟩, rfl⟩)
      subst hd2
      unfold authA
      simp (dsimp := false) only [go_sem, ↓reduceIte, Nat.reduceEqDiff, Nat.reduceLT, Nat.reduceAdd, Nat.reduceSub, Nat.reduceMul, Nat.reduceLeDiff, reduceCtorEq, Int.reduceNeg, Int.reduceToNat, Int.reduceLT, Int.reduceLE, Int.reduceGE, Int.reduceGT, Int.reduceEq]
      intro k2 hk2
      have q1 := none_ne hk2
      have a1 : ∀ (own : Own) o, (own.set k2 o) k1 = own k1 := fun own o => Own.set_ne _ _ (Ne.symm q1)
      have a2 : ∀ (own : Own) o, (own.set k1 o) k2 = own k2 := fun own o => Own.set_ne _ _ q1
      simp (dsimp := false) only [go_sem, ↓reduceIte, Nat.reduceEqDiff, Nat.reduceLT, Nat.reduceAdd, Nat.reduceSub, Nat.reduceMul, Nat.reduceLeDiff, reduceCtorEq, Int.reduceNeg, Int.reduceToNat, Int.reduceLT, Int.reduceLE, Int.reduceGE, Int.reduceGT, Int.reduceEq, a1, a2]
    · have hd2 : d = .tup [authA ⟨#[]⟩ ⟨#[]⟩ ⟨#[]⟩ 0 0 0, .raw (.int .i64 31)] := hd.unique (.inr ⟨fun body h => (by
        rw [hob] at h
        injection h with h
        subst h
        intro _ _ _ _ _ _ h'
        have : other = !little := by cases little <;> cases other <;> simp at hlo ⊢
        rw [this] at h'
        exact authB_flag h'.2.symm), rfl⟩)
      subst hd2
      unfold authA
      simp (dsimp := false) only [go_sem, ↓reduceIte, Nat.reduceEqDiff, Nat.reduceLT, Nat.reduceAdd, Nat.reduceSub, Nat.reduceMul, Nat.reduceLeDiff, reduceCtorEq, Int.reduceNeg, Int.reduceToNat, Int.reduceLT, Int.reduceLE, Int.reduceGE, Int.reduceGT, Int.reduceEq]
      intro k2 hk2
      have q1 := none_ne hk2
      have a1 : ∀ (own : Own) o, (own.set k2 o) k1 = own k1 := fun own o => Own.set_ne _ _ (Ne.symm q1)
      have a2 : ∀ (own : Own) o, (own.set k1 o) k2 = own k2 := fun own o => Own.set_ne _ _ q1
      have hlo' : (little == other) = false := by cases little <;> cases other <;> simp at hlo ⊢
      simp (dsimp := false) only [go_sem, ↓reduceIte, Nat.reduceEqDiff, Nat.reduceLT, Nat.reduceAdd, Nat.reduceSub, Nat.reduceMul, Nat.reduceLeDiff, reduceCtorEq, Int.reduceNeg, Int.reduceToNat, Int.reduceLT, Int.reduceLE, Int.reduceGE, Int.reduceGT, Int.reduceEq, a1, a2, hlo']
  · rw [if_neg (by omega)] at hob
    have hd2 : d = .tup [authA ⟨#[]⟩ ⟨#[]⟩ ⟨#[]⟩ 0 0 0, .raw (.int .i64 31)] := hd.unique (.inr ⟨fun body h => (by rw [hob] at h; cases h), rfl⟩)
    subst hd2
    unfold authA
    simp (dsimp := false) only [go_sem, ↓reduceIte, Nat.reduceEqDiff, Nat.reduceLT, Nat.reduceAdd, Nat.reduceSub, Nat.reduceMul, Nat.reduceLeDiff, reduceCtorEq, Int.reduceNeg, Int.reduceToNat, Int.reduceLT, Int.reduceLE, Int.reduceGE, Int.reduceGT, Int.reduceEq]
    intro k2 hk2
    have q1 := none_ne hk2
    have a1 : ∀ (own : Own) o, (own.set k2 o) k1 = own k1 := fun own o => Own.set_ne _ _ (Ne.symm q1)
    have a2 : ∀ (own : Own) o, (own.set k1 o) k2 = own k2 := fun own o => Own.set_ne _ _ q1
    simp (dsimp := false) only [go_sem, ↓reduceIte, Nat.reduceEqDiff, Nat.reduceLT, Nat.reduceAdd, Nat.reduceSub, Nat.reduceMul, Nat.reduceLeDiff, reduceCtorEq, Int.reduceNeg, Int.reduceToNat, Int.reduceLT, Int.reduceLE, Int.reduceGE, Int.reduceGT, Int.reduceEq, a1, a2, hnm]
end Go.Proofs.Ytaokfnfaipdpdaa.Fn
