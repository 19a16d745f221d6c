/- The law on texts that are read. -/
import Derived.Test.YtenfgknhongaaaaFn21
set_option linter.unusedVariables false
set_option linter.unusedSimpArgs false
namespace Go.Proofs.Ytenfgknhongaaaa.Fn
open Go Hl Sp Ty
set_option maxRecDepth 100000
theorem ls_get (ls : List (List UInt8)) (i : Nat) (h : i < ls.length) : (ls.map fun b => AV.lst 1 (b.map byteA)).getD i .any = .lst 1 ((ls.getD i []).map byteA) := by
  simp [List.getD_eq_getElem?_getD, h]
set_option maxHeartbeats 4000000 in
theorem FieldTexts_pc (b : List UInt8) (at_ size who how : Int) (hs : 0 ≤ size ∧ size ≤ 255) (hw : 0 ≤ who ∧ who ≤ 255) (hh : 0 ≤ how ∧ how ≤ 65535) :
    PC Try.prog 6 [.lst 1 (b.map byteA), .raw (.int .i64 at_), .raw (.int .u8 size), .raw (.int .u8 who), .raw (.int .u16 how)] (.raw (.bool true)) := by
  refine PC.of_ac ?_
  have c1 : IntKind.i64.wrap who = who := wrap_i64 (by omega) (by omega)
  have c2 : IntKind.i64.wrap size = size := wrap_i64 (by omega) (by omega)
  obtain ⟨⟨u1, u2, u3⟩, hu⟩ : ∃ u, userP who = u := ⟨_, rfl⟩
  have hv := userP_val who
  rw [hu] at hv
  have hz := validB_size hv
  simp only at hz hv
  have hx : who.tmod 2 = 0 ∨ who.tmod 2 = 1 := by rw [Int.tmod_eq_emod_of_nonneg hw.1]; omega
  have hL := Longest_pure (who.tmod 2).toNat (by omega)
  rw [Int.toNat_of_nonneg (by omega)] at hL
  have m7 : 0 ≤ size.tmod 7 ∧ size.tmod 7 < 7 := by rw [Int.tmod_eq_emod_of_nonneg hs.1]; omega
  have m43 : 0 ≤ size.tmod 43 ∧ size.tmod 43 < 43 := by rw [Int.tmod_eq_emod_of_nonneg hs.1]; omega
  have c3 : IntKind.i64.wrap (36 + size.tmod 7) = 36 + size.tmod 7 := wrap_i64 (by omega) (by omega)
  have e42 : nS 39 ++ ⟨#[110, 110, 110]⟩ = nS 42 := by decide
  have s42 : (nS 42).size = 42 := nS_size 42
  have s39 : (nS 39).size = 39 := nS_size 39
  refine AC.of_body (M := []) Try.func6 rfl (by kernel_rfl) (Nat.le_of_ble_eq_true rfl) ?_; simp only [Try.results6, Try.ntmps6]
  simp (dsimp := false) only [go_sem, ↓reduceIte, Nat.reduceEqDiff, Nat.reduceLT, Nat.reduceAdd, Nat.reduceSub, Nat.reduceMul, Nat.reduceLeDiff, reduceCtorEq, Int.reduceNeg, Int.reduceToNat, Int.reduceLT, Int.reduceLE, Int.reduceEq]
  refine ACs.pure awake5_pure ?_
  by_cases h1 : (b.length : Int) > 300
  · simp (dsimp := false) only [go_sem, ↓reduceIte, Nat.reduceEqDiff, Nat.reduceLT, Nat.reduceAdd, Nat.reduceSub, Nat.reduceMul, Nat.reduceLeDiff, reduceCtorEq, Int.reduceNeg, Int.reduceToNat, Int.reduceLT, Int.reduceLE, Int.reduceEq, h1]
  simp (dsimp := false) only [go_sem, ↓reduceIte, Nat.reduceEqDiff, Nat.reduceLT, Nat.reduceAdd, Nat.reduceSub, Nat.reduceMul, Nat.reduceLeDiff, reduceCtorEq, Int.reduceNeg, Int.reduceToNat, Int.reduceLT, Int.reduceLE, Int.reduceEq, h1, c1]
  refine ACs.pure (User_pure who hw.1 (by omega)) ?_
  simp (dsimp := false) only [go_sem, ↓reduceIte, Nat.reduceEqDiff, Nat.reduceLT, Nat.reduceAdd, Nat.reduceSub, Nat.reduceMul, Nat.reduceLeDiff, reduceCtorEq, Int.reduceNeg, Int.reduceToNat, Int.reduceLT, Int.reduceLE, Int.reduceEq, hu, prinA]
  intro k hk
  by_cases h4 : who.tmod 5 = 4
  · simp (dsimp := false) only [go_sem, ↓reduceIte, Nat.reduceEqDiff, Nat.reduceLT, Nat.reduceAdd, Nat.reduceSub, Nat.reduceMul, Nat.reduceLeDiff, reduceCtorEq, Int.reduceNeg, Int.reduceToNat, Int.reduceLT, Int.reduceLE, Int.reduceEq, h4, c1]
    refine ACs.pure hL ?_
    simp (dsimp := false) only [go_sem, ↓reduceIte, Nat.reduceEqDiff, Nat.reduceLT, Nat.reduceAdd, Nat.reduceSub, Nat.reduceMul, Nat.reduceLeDiff, reduceCtorEq, Int.reduceNeg, Int.reduceToNat, Int.reduceLT, Int.reduceLE, Int.reduceEq, prinA]
    refine ACs.pure (Longest_pure 0 (by decide)) ?_
    simp (dsimp := false) only [go_sem, ↓reduceIte, Nat.reduceEqDiff, Nat.reduceLT, Nat.reduceAdd, Nat.reduceSub, Nat.reduceMul, Nat.reduceLeDiff, reduceCtorEq, Int.reduceNeg, Int.reduceToNat, Int.reduceLT, Int.reduceLE, Int.reduceEq, prinA, e42, c2, c3]
    have sL := nS_size (39 - (who.tmod 2).toNat)
    refine ⟨by rw [s39]; decide, ?_⟩
    refine AW.draw (M := []) [.v, .r, .e, .v, .e, .v, .v, .v, .v, .v, .v, .e, .v, .v, .v, .v, .v, .v, .v, .v] mixed (by kernel_rfl) ?_
    simp (dsimp := false) only [go_sem, ↓reduceIte, Nat.reduceEqDiff, Nat.reduceLT, Nat.reduceAdd, Nat.reduceSub, Nat.reduceMul, Nat.reduceLeDiff, reduceCtorEq, Int.reduceNeg, Int.reduceToNat, Int.reduceLT, Int.reduceLE, Int.reduceEq]
    refine ACs.arg (pre := []) (Weak1.nil (wd := 1)) ?_
    refine ACs.pure (rPutPrincipal_pure [] (nS (39 - (who.tmod 2).toNat)) (nS (39 - (who.tmod 2).toNat)) (nS (39 - (who.tmod 2).toNat)) (by simp; omega)) ?_
    simp (dsimp := false) only [go_sem, ↓reduceIte, Nat.reduceEqDiff, Nat.reduceLT, Nat.reduceAdd, Nat.reduceSub, Nat.reduceMul, Nat.reduceLeDiff, reduceCtorEq, Int.reduceNeg, Int.reduceToNat, Int.reduceLT, Int.reduceLE, Int.reduceEq]
    refine ACs.pn (Spoil_pn (prinB (nS (39 - (who.tmod 2).toNat)) (nS (39 - (who.tmod 2).toNat)) (nS (39 - (who.tmod 2).toNat))) how (by rw [prinB_length]; omega) hh.1 hh.2) ?_
    rintro _ ⟨x, rfl, hxl⟩
    rw [prinB_length] at hxl
    simp (dsimp := false) only [go_sem, ↓reduceIte, Nat.reduceEqDiff, Nat.reduceLT, Nat.reduceAdd, Nat.reduceSub, Nat.reduceMul, Nat.reduceLeDiff, reduceCtorEq, Int.reduceNeg, Int.reduceToNat, Int.reduceLT, Int.reduceLE, Int.reduceEq, c2, c3]
    obtain ⟨t1, ht1⟩ : ∃ t, (nS 42).extract 0 (36 + size.tmod 7).toNat = t := ⟨_, rfl⟩
    obtain ⟨t2, ht2⟩ : ∃ t, (nS 42).extract 0 (size.tmod 43).toNat = t := ⟨_, rfl⟩
    have z1 : t1.size ≤ 42 := by rw [← ht1, ByteArray.size_extract]; omega
    have z2 : t2.size ≤ 42 := by rw [← ht2, ByteArray.size_extract]; omega
    refine ⟨by rw [s42]; omega, ?_⟩
    refine ACs.arg (pre := []) (Weak1.nil (wd := 1)) ?_
    simp (dsimp := false) only [go_sem, ↓reduceIte, Nat.reduceEqDiff, Nat.reduceLT, Nat.reduceAdd, Nat.reduceSub, Nat.reduceMul, Nat.reduceLeDiff, reduceCtorEq, Int.reduceNeg, Int.reduceToNat, Int.reduceLT, Int.reduceLE, Int.reduceEq, ht1]
    refine ACs.pure (rPutText_pure [] t1 (by simp; omega)) ?_
    simp (dsimp := false) only [go_sem, ↓reduceIte, Nat.reduceEqDiff, Nat.reduceLT, Nat.reduceAdd, Nat.reduceSub, Nat.reduceMul, Nat.reduceLeDiff, reduceCtorEq, Int.reduceNeg, Int.reduceToNat, Int.reduceLT, Int.reduceLE, Int.reduceEq, c2, ht2]
    have hl42 : (0 ≤ size.tmod 43 ∧ size.tmod 43 ≤ ((nS 42).size : Int)) := by rw [s42]; omega
    refine ⟨hl42, by omega, ?_⟩
    obtain ⟨L, hL4⟩ : ∃ L : List AV, L = [.lst 1 (b.map byteA), .lst 1 (x.map byteA), .lst 1 ((textB t1).map byteA), .lst 1 (bytesA t2)] := ⟨_, rfl⟩
    have hlen : L.length = 4 := by rw [hL4]; rfl
    have hget : ∀ j : Nat, j < 4 → ∃ y : List UInt8, L.getD j .any = .lst 1 (y.map byteA) ∧ y.length ≤ 140737488355000 := by
      intro j hj
      rw [hL4]
      match j, hj with
      | 0, _ => exact ⟨b, rfl, by omega⟩
      | 1, _ => exact ⟨x, rfl, by omega⟩
      | 2, _ => exact ⟨textB t1, rfl, by rw [textB_length]; omega⟩
      | 3, _ => exact ⟨t2.data.toList, rfl, by rw [← size_eq]; omega⟩
    refine AW.loopJ (M := []) (X := Nat) (fun j => ⟨146, tmL [(1, .raw (.int .i64 at_)), (2, .raw (.int .u8 size)), (13, .lst 1 L), (14, .raw (.int .i64 j))], noOwn⟩)
      (fun j => j ≤ 4) (fun j => 4 - j) 0 (by decide) ?_ ?_
    · rw [hL4]
      (refine Ghost.of ?_ (fun _ _ h => by cases h); (repeat' (first | exact all_nil | refine all_cons ?_ ?_)) <;> (first | (simp (dsimp := false) only [go_sem, ↓reduceIte, Nat.reduceEqDiff, Nat.reduceLT, Nat.reduceAdd, Nat.reduceSub, Nat.reduceMul, Nat.reduceLeDiff, reduceCtorEq, Int.reduceNeg, Int.reduceToNat, Int.reduceLT, Int.reduceLE, Int.reduceEq]; done) | (simp (dsimp := false) only [go_sem, ↓reduceIte, Nat.reduceEqDiff, Nat.reduceLT, Nat.reduceAdd, Nat.reduceSub, Nat.reduceMul, Nat.reduceLeDiff, reduceCtorEq, Int.reduceNeg, Int.reduceToNat, Int.reduceLT, Int.reduceLE, Int.reduceEq]; rfl)))
    intro j hj
    by_cases hj4 : (j : Int) < 4
    · obtain ⟨y, hy, hyl⟩ := hget j (by omega)
      have e1 : IntKind.i64.wrap ((j : Int) + 1) = ((j + 1 : Nat) : Int) := by rw [wrap_i64 (by omega) (by omega)]; omega
      simp (dsimp := false) only [go_sem, ↓reduceIte, Nat.reduceEqDiff, Nat.reduceLT, Nat.reduceAdd, Nat.reduceSub, Nat.reduceMul, Nat.reduceLeDiff, reduceCtorEq, Int.reduceNeg, Int.reduceToNat, Int.reduceLT, Int.reduceLE, Int.reduceEq, hj4, hlen]
      refine AW.loopJ (M := []) (X := Nat) (fun q => ⟨146, tmL [(1, .raw (.int .i64 at_)), (2, .raw (.int .u8 size)), (13, .lst 1 L), (14, .raw (.int .i64 j)), (15, .raw (.int .i64 q))], noOwn⟩)
        (fun q => q ≤ 2) (fun q => 2 - q) 0 (by decide) ?_ ?_
      · (refine Ghost.of ?_ (fun _ _ h => by cases h); (repeat' (first | exact all_nil | refine all_cons ?_ ?_)) <;> (first | (simp (dsimp := false) only [go_sem, ↓reduceIte, Nat.reduceEqDiff, Nat.reduceLT, Nat.reduceAdd, Nat.reduceSub, Nat.reduceMul, Nat.reduceLeDiff, reduceCtorEq, Int.reduceNeg, Int.reduceToNat, Int.reduceLT, Int.reduceLE, Int.reduceEq]; done) | (simp (dsimp := false) only [go_sem, ↓reduceIte, Nat.reduceEqDiff, Nat.reduceLT, Nat.reduceAdd, Nat.reduceSub, Nat.reduceMul, Nat.reduceLeDiff, reduceCtorEq, Int.reduceNeg, Int.reduceToNat, Int.reduceLT, Int.reduceLE, Int.reduceEq]; rfl)))
      intro q hq
      by_cases hq2 : (q : Int) < 2
      · obtain ⟨m, hm⟩ : ∃ m : Int, [AV.raw (.int .i64 at_), .raw (.int .i64 (size.tmod 4))].getD q .any = .raw (.int .i64 m) := by
          match q, (show q < 2 by omega) with
          | 0, _ => exact ⟨_, rfl⟩
          | 1, _ => exact ⟨_, rfl⟩
        have e2 : IntKind.i64.wrap ((q : Int) + 1) = ((q + 1 : Nat) : Int) := by rw [wrap_i64 (by omega) (by omega)]; omega
        simp (dsimp := false) only [go_sem, ↓reduceIte, Nat.reduceEqDiff, Nat.reduceLT, Nat.reduceAdd, Nat.reduceSub, Nat.reduceMul, Nat.reduceLeDiff, reduceCtorEq, Int.reduceNeg, Int.reduceToNat, Int.reduceLT, Int.reduceLE, Int.reduceEq, hq2, hm, hy, c2, hlen]
        have hP1 := Principal_pure y m hyl
        have hP2 := rPrincipal_pure y m hyl
        unfold prinA at hP1 hP2
        refine ⟨by omega, by omega, ?_⟩
        refine ACs.pure (Text_pure y m hyl) ?_
        simp (dsimp := false) only [go_sem, ↓reduceIte, Nat.reduceEqDiff, Nat.reduceLT, Nat.reduceAdd, Nat.reduceSub, Nat.reduceMul, Nat.reduceLeDiff, reduceCtorEq, Int.reduceNeg, Int.reduceToNat, Int.reduceLT, Int.reduceLE, Int.reduceEq, hy, hlen]
        refine ⟨by omega, ?_⟩
        refine ACs.pure (rText_pure y m hyl) ?_
        simp (dsimp := false) only [go_sem, ↓reduceIte, Nat.reduceEqDiff, Nat.reduceLT, Nat.reduceAdd, Nat.reduceSub, Nat.reduceMul, Nat.reduceLeDiff, reduceCtorEq, Int.reduceNeg, Int.reduceToNat, Int.reduceLT, Int.reduceLE, Int.reduceEq, hy, hlen]
        refine ⟨by omega, ?_⟩
        refine ACs.pure hP1 ?_
        simp (dsimp := false) only [go_sem, ↓reduceIte, Nat.reduceEqDiff, Nat.reduceLT, Nat.reduceAdd, Nat.reduceSub, Nat.reduceMul, Nat.reduceLeDiff, reduceCtorEq, Int.reduceNeg, Int.reduceToNat, Int.reduceLT, Int.reduceLE, Int.reduceEq, hy, hlen]
        intro k1 hk1
        refine ⟨by omega, ?_⟩
        refine ACs.pure hP2 ?_
        simp (dsimp := false) only [go_sem, ↓reduceIte, Nat.reduceEqDiff, Nat.reduceLT, Nat.reduceAdd, Nat.reduceSub, Nat.reduceMul, Nat.reduceLeDiff, reduceCtorEq, Int.reduceNeg, Int.reduceToNat, Int.reduceLT, Int.reduceLE, Int.reduceEq]
        intro k2 hk2
        have n1 := none_ne hk2
        have a1 : ∀ (own : Own) o, (own.set k2 o) k1 = own k1 := fun own o => Own.set_ne _ _ (Ne.symm n1)
        have a2 : ∀ (own : Own) o, (own.set k1 o) k2 = own k2 := fun own o => Own.set_ne _ _ n1
        simp (dsimp := false) only [go_sem, ↓reduceIte, Nat.reduceEqDiff, Nat.reduceLT, Nat.reduceAdd, Nat.reduceSub, Nat.reduceMul, Nat.reduceLeDiff, reduceCtorEq, Int.reduceNeg, Int.reduceToNat, Int.reduceLT, Int.reduceLE, Int.reduceEq, a1, a2, e2]
        refine ⟨q + 1, by omega, ?_, by omega⟩
        (refine Ghost.of ?_ (fun _ _ h => by cases h); (repeat' (first | exact all_nil | refine all_cons ?_ ?_)) <;> (first | (simp (dsimp := false) only [go_sem, ↓reduceIte, Nat.reduceEqDiff, Nat.reduceLT, Nat.reduceAdd, Nat.reduceSub, Nat.reduceMul, Nat.reduceLeDiff, reduceCtorEq, Int.reduceNeg, Int.reduceToNat, Int.reduceLT, Int.reduceLE, Int.reduceEq]; done) | (simp (dsimp := false) only [go_sem, ↓reduceIte, Nat.reduceEqDiff, Nat.reduceLT, Nat.reduceAdd, Nat.reduceSub, Nat.reduceMul, Nat.reduceLeDiff, reduceCtorEq, Int.reduceNeg, Int.reduceToNat, Int.reduceLT, Int.reduceLE, Int.reduceEq]; rfl)))
      · simp (dsimp := false) only [go_sem, ↓reduceIte, Nat.reduceEqDiff, Nat.reduceLT, Nat.reduceAdd, Nat.reduceSub, Nat.reduceMul, Nat.reduceLeDiff, reduceCtorEq, Int.reduceNeg, Int.reduceToNat, Int.reduceLT, Int.reduceLE, Int.reduceEq, hq2, e1]
        refine ⟨j + 1, by omega, ?_, by omega⟩
        (refine Ghost.of ?_ (fun _ _ h => by cases h); (repeat' (first | exact all_nil | refine all_cons ?_ ?_)) <;> (first | (simp (dsimp := false) only [go_sem, ↓reduceIte, Nat.reduceEqDiff, Nat.reduceLT, Nat.reduceAdd, Nat.reduceSub, Nat.reduceMul, Nat.reduceLeDiff, reduceCtorEq, Int.reduceNeg, Int.reduceToNat, Int.reduceLT, Int.reduceLE, Int.reduceEq]; done) | (simp (dsimp := false) only [go_sem, ↓reduceIte, Nat.reduceEqDiff, Nat.reduceLT, Nat.reduceAdd, Nat.reduceSub, Nat.reduceMul, Nat.reduceLeDiff, reduceCtorEq, Int.reduceNeg, Int.reduceToNat, Int.reduceLT, Int.reduceLE, Int.reduceEq]; rfl)))
    · simp (dsimp := false) only [go_sem, ↓reduceIte, Nat.reduceEqDiff, Nat.reduceLT, Nat.reduceAdd, Nat.reduceSub, Nat.reduceMul, Nat.reduceLeDiff, reduceCtorEq, Int.reduceNeg, Int.reduceToNat, Int.reduceLT, Int.reduceLE, Int.reduceEq, hj4, hlen]
  · simp (dsimp := false) only [go_sem, ↓reduceIte, Nat.reduceEqDiff, Nat.reduceLT, Nat.reduceAdd, Nat.reduceSub, Nat.reduceMul, Nat.reduceLeDiff, reduceCtorEq, Int.reduceNeg, Int.reduceToNat, Int.reduceLT, Int.reduceLE, Int.reduceEq, h4, c1]
    refine ACs.pure (Longest_pure 0 (by decide)) ?_
    simp (dsimp := false) only [go_sem, ↓reduceIte, Nat.reduceEqDiff, Nat.reduceLT, Nat.reduceAdd, Nat.reduceSub, Nat.reduceMul, Nat.reduceLeDiff, reduceCtorEq, Int.reduceNeg, Int.reduceToNat, Int.reduceLT, Int.reduceLE, Int.reduceEq, prinA, e42, c2, c3]
    refine ⟨by rw [s39]; decide, ?_⟩
    refine AW.draw (M := []) [.v, .r, .e, .v, .e, .v, .v, .v, .v, .v, .v, .e, .v, .v, .v, .v, .v, .v, .v, .v] mixed (by kernel_rfl) ?_
    simp (dsimp := false) only [go_sem, ↓reduceIte, Nat.reduceEqDiff, Nat.reduceLT, Nat.reduceAdd, Nat.reduceSub, Nat.reduceMul, Nat.reduceLeDiff, reduceCtorEq, Int.reduceNeg, Int.reduceToNat, Int.reduceLT, Int.reduceLE, Int.reduceEq]
    refine ACs.arg (pre := []) (Weak1.nil (wd := 1)) ?_
    refine ACs.pure (rPutPrincipal_pure [] u1 u2 u3 (by simp; omega)) ?_
    simp (dsimp := false) only [go_sem, ↓reduceIte, Nat.reduceEqDiff, Nat.reduceLT, Nat.reduceAdd, Nat.reduceSub, Nat.reduceMul, Nat.reduceLeDiff, reduceCtorEq, Int.reduceNeg, Int.reduceToNat, Int.reduceLT, Int.reduceLE, Int.reduceEq]
    refine ACs.pn (Spoil_pn (prinB u1 u2 u3) how (by rw [prinB_length]; omega) hh.1 hh.2) ?_
    rintro _ ⟨x, rfl, hxl⟩
    rw [prinB_length] at hxl
    simp (dsimp := false) only [go_sem, ↓reduceIte, Nat.reduceEqDiff, Nat.reduceLT, Nat.reduceAdd, Nat.reduceSub, Nat.reduceMul, Nat.reduceLeDiff, reduceCtorEq, Int.reduceNeg, Int.reduceToNat, Int.reduceLT, Int.reduceLE, Int.reduceEq, c2, c3]
    obtain ⟨t1, ht1⟩ : ∃ t, (nS 42).extract 0 (36 + size.tmod 7).toNat = t := ⟨_, rfl⟩
    obtain ⟨t2, ht2⟩ : ∃ t, (nS 42).extract 0 (size.tmod 43).toNat = t := ⟨_, rfl⟩
    have z1 : t1.size ≤ 42 := by rw [← ht1, ByteArray.size_extract]; omega
    have z2 : t2.size ≤ 42 := by rw [← ht2, ByteArray.size_extract]; omega
    refine ⟨by rw [s42]; omega, ?_⟩
    refine ACs.arg (pre := []) (Weak1.nil (wd := 1)) ?_
    simp (dsimp := false) only [go_sem, ↓reduceIte, Nat.reduceEqDiff, Nat.reduceLT, Nat.reduceAdd, Nat.reduceSub, Nat.reduceMul, Nat.reduceLeDiff, reduceCtorEq, Int.reduceNeg, Int.reduceToNat, Int.reduceLT, Int.reduceLE, Int.reduceEq, ht1]
    refine ACs.pure (rPutText_pure [] t1 (by simp; omega)) ?_
    simp (dsimp := false) only [go_sem, ↓reduceIte, Nat.reduceEqDiff, Nat.reduceLT, Nat.reduceAdd, Nat.reduceSub, Nat.reduceMul, Nat.reduceLeDiff, reduceCtorEq, Int.reduceNeg, Int.reduceToNat, Int.reduceLT, Int.reduceLE, Int.reduceEq, c2, ht2]
    have hl42 : (0 ≤ size.tmod 43 ∧ size.tmod 43 ≤ ((nS 42).size : Int)) := by rw [s42]; omega
    refine ⟨hl42, by omega, ?_⟩
    obtain ⟨L, hL4⟩ : ∃ L : List AV, L = [.lst 1 (b.map byteA), .lst 1 (x.map byteA), .lst 1 ((textB t1).map byteA), .lst 1 (bytesA t2)] := ⟨_, rfl⟩
    have hlen : L.length = 4 := by rw [hL4]; rfl
    have hget : ∀ j : Nat, j < 4 → ∃ y : List UInt8, L.getD j .any = .lst 1 (y.map byteA) ∧ y.length ≤ 140737488355000 := by
      intro j hj
      rw [hL4]
      match j, hj with
      | 0, _ => exact ⟨b, rfl, by omega⟩
      | 1, _ => exact ⟨x, rfl, by omega⟩
      | 2, _ => exact ⟨textB t1, rfl, by rw [textB_length]; omega⟩
      | 3, _ => exact ⟨t2.data.toList, rfl, by rw [← size_eq]; omega⟩
    refine AW.loopJ (M := []) (X := Nat) (fun j => ⟨146, tmL [(1, .raw (.int .i64 at_)), (2, .raw (.int .u8 size)), (13, .lst 1 L), (14, .raw (.int .i64 j))], noOwn⟩)
      (fun j => j ≤ 4) (fun j => 4 - j) 0 (by decide) ?_ ?_
    · rw [hL4]
      (refine Ghost.of ?_ (fun _ _ h => by cases h); (repeat' (first | exact all_nil | refine all_cons ?_ ?_)) <;> (first | (simp (dsimp := false) only [go_sem, ↓reduceIte, Nat.reduceEqDiff, Nat.reduceLT, Nat.reduceAdd, Nat.reduceSub, Nat.reduceMul, Nat.reduceLeDiff, reduceCtorEq, Int.reduceNeg, Int.reduceToNat, Int.reduceLT, Int.reduceLE, Int.reduceEq]; done) | (simp (dsimp := false) only [go_sem, ↓reduceIte, Nat.reduceEqDiff, Nat.reduceLT, Nat.reduceAdd, Nat.reduceSub, Nat.reduceMul, Nat.reduceLeDiff, reduceCtorEq, Int.reduceNeg, Int.reduceToNat, Int.reduceLT, Int.reduceLE, Int.reduceEq]; rfl)))
    intro j hj
    by_cases hj4 : (j : Int) < 4
    · obtain ⟨y, hy, hyl⟩ := hget j (by omega)
      have e1 : IntKind.i64.wrap ((j : Int) + 1) = ((j + 1 : Nat) : Int) := by rw [wrap_i64 (by omega) (by omega)]; omega
      simp (dsimp := false) only [go_sem, ↓reduceIte, Nat.reduceEqDiff, Nat.reduceLT, Nat.reduceAdd, Nat.reduceSub, Nat.reduceMul, Nat.reduceLeDiff, reduceCtorEq, Int.reduceNeg, Int.reduceToNat, Int.reduceLT, Int.reduceLE, Int.reduceEq, hj4, hlen]
      refine AW.loopJ (M := []) (X := Nat) (fun q => ⟨146, tmL [(1, .raw (.int .i64 at_)), (2, .raw (.int .u8 size)), (13, .lst 1 L), (14, .raw (.int .i64 j)), (15, .raw (.int .i64 q))], noOwn⟩)
        (fun q => q ≤ 2) (fun q => 2 - q) 0 (by decide) ?_ ?_
      · (refine Ghost.of ?_ (fun _ _ h => by cases h); (repeat' (first | exact all_nil | refine all_cons ?_ ?_)) <;> (first | (simp (dsimp := false) only [go_sem, ↓reduceIte, Nat.reduceEqDiff, Nat.reduceLT, Nat.reduceAdd, Nat.reduceSub, Nat.reduceMul, Nat.reduceLeDiff, reduceCtorEq, Int.reduceNeg, Int.reduceToNat, Int.reduceLT, Int.reduceLE, Int.reduceEq]; done) | (simp (dsimp := false) only [go_sem, ↓reduceIte, Nat.reduceEqDiff, Nat.reduceLT, Nat.reduceAdd, Nat.reduceSub, Nat.reduceMul, Nat.reduceLeDiff, reduceCtorEq, Int.reduceNeg, Int.reduceToNat, Int.reduceLT, Int.reduceLE, Int.reduceEq]; rfl)))
      intro q hq
      by_cases hq2 : (q : Int) < 2
      · obtain ⟨m, hm⟩ : ∃ m : Int, [AV.raw (.int .i64 at_), .raw (.int .i64 (size.tmod 4))].getD q .any = .raw (.int .i64 m) := by
          match q, (show q < 2 by omega) with
          | 0, _ => exact ⟨_, rfl⟩
          | 1, _ => exact ⟨_, rfl⟩
        have e2 : IntKind.i64.wrap ((q : Int) + 1) = ((q + 1 : Nat) : Int) := by rw [wrap_i64 (by omega) (by omega)]; omega
        simp (dsimp := false) only [go_sem, ↓reduceIte, Nat.reduceEqDiff, Nat.reduceLT, Nat.reduceAdd, Nat.reduceSub, Nat.reduceMul, Nat.reduceLeDiff, reduceCtorEq, Int.reduceNeg, Int.reduceToNat, Int.reduceLT, Int.reduceLE, Int.reduceEq, hq2, hm, hy, c2, hlen]
        have hP1 := Principal_pure y m hyl
        have hP2 := rPrincipal_pure y m hyl
        unfold prinA at hP1 hP2
        refine ⟨by omega, by omega, ?_⟩
        refine ACs.pure (Text_pure y m hyl) ?_
        simp (dsimp := false) only [go_sem, ↓reduceIte, Nat.reduceEqDiff, Nat.reduceLT, Nat.reduceAdd, Nat.reduceSub, Nat.reduceMul, Nat.reduceLeDiff, reduceCtorEq, Int.reduceNeg, Int.reduceToNat, Int.reduceLT, Int.reduceLE, Int.reduceEq, hy, hlen]
        refine ⟨by omega, ?_⟩
        refine ACs.pure (rText_pure y m hyl) ?_
        simp (dsimp := false) only [go_sem, ↓reduceIte, Nat.reduceEqDiff, Nat.reduceLT, Nat.reduceAdd, Nat.reduceSub, Nat.reduceMul, Nat.reduceLeDiff, reduceCtorEq, Int.reduceNeg, Int.reduceToNat, Int.reduceLT, Int.reduceLE, Int.reduceEq, hy, hlen]
        refine ⟨by omega, ?_⟩
        refine ACs.pure hP1 ?_
        simp (dsimp := false) only [go_sem, ↓reduceIte, Nat.reduceEqDiff, Nat.reduceLT, Nat.reduceAdd, Nat.reduceSub, Nat.reduceMul, Nat.reduceLeDiff, reduceCtorEq, Int.reduceNeg, Int.reduceToNat, Int.reduceLT, Int.reduceLE, Int.reduceEq, hy, hlen]
        intro k1 hk1
        refine ⟨by omega, ?_⟩
        refine ACs.pure hP2 ?_
        simp (dsimp := false) only [go_sem, ↓reduceIte, Nat.reduceEqDiff, Nat.reduceLT, Nat.reduceAdd, Nat.reduceSub, Nat.reduceMul, Nat.reduceLeDiff, reduceCtorEq, Int.reduceNeg, Int.reduceToNat, Int.reduceLT, Int.reduceLE, Int.reduceEq]
        intro k2 hk2
        have n1 := none_ne hk2
        have a1 : ∀ (own : Own) o, (own.set k2 o) k1 = own k1 := fun own o => Own.set_ne _ _ (Ne.symm n1)
        have a2 : ∀ (own : Own) o, (own.set k1 o) k2 = own k2 := fun own o => Own.set_ne _ _ n1
        simp (dsimp := false) only [go_sem, ↓reduceIte, Nat.reduceEqDiff, Nat.reduceLT, Nat.reduceAdd, Nat.reduceSub, Nat.reduceMul, Nat.reduceLeDiff, reduceCtorEq, Int.reduceNeg, Int.reduceToNat, Int.reduceLT, Int.reduceLE, Int.reduceEq, a1, a2, e2]
        refine ⟨q + 1, by omega, ?_, by omega⟩
        (refine Ghost.of ?_ (fun _ _ h => by cases h); (repeat' (first | exact all_nil | refine all_cons ?_ ?_)) <;> (first | (simp (dsimp := false) only [go_sem, ↓reduceIte, Nat.reduceEqDiff, Nat.reduceLT, Nat.reduceAdd, Nat.reduceSub, Nat.reduceMul, Nat.reduceLeDiff, reduceCtorEq, Int.reduceNeg, Int.reduceToNat, Int.reduceLT, Int.reduceLE, Int.reduceEq]; done) | (simp (dsimp := false) only [go_sem, ↓reduceIte, Nat.reduceEqDiff, Nat.reduceLT, Nat.reduceAdd, Nat.reduceSub, Nat.reduceMul, Nat.reduceLeDiff, reduceCtorEq, Int.reduceNeg, Int.reduceToNat, Int.reduceLT, Int.reduceLE, Int.reduceEq]; rfl)))
      · simp (dsimp := false) only [go_sem, ↓reduceIte, Nat.reduceEqDiff, Nat.reduceLT, Nat.reduceAdd, Nat.reduceSub, Nat.reduceMul, Nat.reduceLeDiff, reduceCtorEq, Int.reduceNeg, Int.reduceToNat, Int.reduceLT, Int.reduceLE, Int.reduceEq, hq2, e1]
        refine ⟨j + 1, by omega, ?_, by omega⟩
        (refine Ghost.of ?_ (fun _ _ h => by cases h); (repeat' (first | exact all_nil | refine all_cons ?_ ?_)) <;> (first | (simp (dsimp := false) only [go_sem, ↓reduceIte, Nat.reduceEqDiff, Nat.reduceLT, Nat.reduceAdd, Nat.reduceSub, Nat.reduceMul, Nat.reduceLeDiff, reduceCtorEq, Int.reduceNeg, Int.reduceToNat, Int.reduceLT, Int.reduceLE, Int.reduceEq]; done) | (simp (dsimp := false) only [go_sem, ↓reduceIte, Nat.reduceEqDiff, Nat.reduceLT, Nat.reduceAdd, Nat.reduceSub, Nat.reduceMul, Nat.reduceLeDiff, reduceCtorEq, Int.reduceNeg, Int.reduceToNat, Int.reduceLT, Int.reduceLE, Int.reduceEq]; rfl)))
    · simp (dsimp := false) only [go_sem, ↓reduceIte, Nat.reduceEqDiff, Nat.reduceLT, Nat.reduceAdd, Nat.reduceSub, Nat.reduceMul, Nat.reduceLeDiff, reduceCtorEq, Int.reduceNeg, Int.reduceToNat, Int.reduceLT, Int.reduceLE, Int.reduceEq, hj4, hlen]
end Go.Proofs.Ytenfgknhongaaaa.Fn
