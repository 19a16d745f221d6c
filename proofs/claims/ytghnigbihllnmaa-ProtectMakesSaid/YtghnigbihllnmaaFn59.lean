/- The laws on safe and private messages: what is encoded, what is made. -/
import Derived.Test.YtghnigbihllnmaaFn58
import Derived.Test.YtghnigbihllnmaaFn46
import Derived.Test.YtghnigbihllnmaaFn20
set_option linter.unusedVariables false
set_option linter.unusedSimpArgs false
namespace Go.Proofs.Ytghnigbihllnmaa.Fn
open Go Hl Sp Ty
set_option maxRecDepth 100000
theorem VSem.of_es {P : Program} {o : Oper} {ρ : Operand → AV} {d0 : AV} (h : ESem P o ρ noOwn fun d own' => ∃ own'', Weak1 own' d own'' d0) : VSem P o ρ noOwn d0 := by
  intro w F ev hf ho hr
  refine (h w F ev hf ho hr).mono ?_
  rintro v w' ⟨F', d, own', h1, h2, own'', hw⟩
  obtain ⟨F2, h3, h4⟩ := hw w' F' v h1.wf h1.owns h2
  exact ⟨F2, Ext.of_ws (h1.trans h3), h4⟩
/-- A new slice of zeros, as a value. -/
theorem VSem.zeros {o : Oper} {ρ : Operand → AV} {n c : Operand} {m : Nat} (h : o.op = .makeSlice 22 n c) (hn : ρ n = .raw (.int .i64 m)) (hc : ρ c = .raw (.int .i64 m)) (hm : m ≤ 100000) :
    VSem Try.prog o ρ noOwn (.lst 1 ((List.replicate m (0 : UInt8)).map byteA)) := by
  refine VSem.of_es (es_make h ?_)
  rw [hn, hc]
  simp (dsimp := false) only [makeE, go_sem]
  refine ⟨by omega, by omega, by omega, by omega, fun k hk => ?_⟩
  refine ⟨_, rowW _ k m m _ (List.replicate m 0) [] ?_ (by simp) (by omega) (by omega)⟩
  rw [List.append_nil, ← zero_bytes m]
  exact Own.set_same _ _ _
theorem conDec.form {b : List UInt8} {lt : Bool} {d : AV} (h : conDec b lt d) : ∃ (lt0 : Bool) (x : List UInt8) (ti : Int) (ad : Int) (tm : Int) (e : Int), d = .tup [conA lt0 x ti ad tm, .raw (.int .i64 e)] := by
  rcases h with ⟨x, ti, ad, tm, h1, rfl⟩ | ⟨h1, rfl⟩
  · exact ⟨lt, _, _, _, _, _, rfl⟩
  · exact ⟨false, [], 0, 0, 0, _, rfl⟩
set_option maxHeartbeats 8000000 in
theorem ProtectMakes_pc (x : List UInt8) (ti ad tm : Int) (data bs : List UInt8) (little : Bool) (k n : Int) (hk : 0 ≤ k ∧ k < 18446744073709551616) (hn : 0 ≤ n ∧ n ≤ 255) :
    PC Try.prog 9 [conA false x ti ad tm, .lst 1 (data.map byteA), .lst 1 (bs.map byteA), .raw (.bool little), .raw (.int .u64 k), .raw (.int .u8 n)] (.raw (.bool true)) := by
  refine PC.of_ac ?_
  have wn : IntKind.i64.wrap n = n := wrap_i64 (by omega) (by omega)
  have hSn := Session_pure n hn.1 (by omega)
  unfold conA
  refine AC.of_body (M := []) Try.func9 rfl (by kernel_rfl) (Nat.le_of_ble_eq_true rfl) ?_; simp only [Try.results9, Try.ntmps9]
  simp (dsimp := false) only [go_sem, ↓reduceIte, Nat.reduceEqDiff, Nat.reduceLT, Nat.reduceAdd, Nat.reduceSub, Nat.reduceMul, Nat.reduceLeDiff, reduceCtorEq, Int.reduceNeg, Int.reduceToNat, Int.reduceLT, Int.reduceLE, Int.reduceGE, Int.reduceGT, Int.reduceEq]
  refine ACs.pure awake11_pure ?_
  by_cases h1 : (x.length : Int) > 600
  · simp (dsimp := false) only [go_sem, ↓reduceIte, Nat.reduceEqDiff, Nat.reduceLT, Nat.reduceAdd, Nat.reduceSub, Nat.reduceMul, Nat.reduceLeDiff, reduceCtorEq, Int.reduceNeg, Int.reduceToNat, Int.reduceLT, Int.reduceLE, Int.reduceGE, Int.reduceGT, Int.reduceEq, h1]
  by_cases h2 : (data.length : Int) > 500
  · simp (dsimp := false) only [go_sem, ↓reduceIte, Nat.reduceEqDiff, Nat.reduceLT, Nat.reduceAdd, Nat.reduceSub, Nat.reduceMul, Nat.reduceLeDiff, reduceCtorEq, Int.reduceNeg, Int.reduceToNat, Int.reduceLT, Int.reduceLE, Int.reduceGE, Int.reduceGT, Int.reduceEq, h1, h2]
  by_cases h3 : (bs.length : Int) > 40
  · simp (dsimp := false) only [go_sem, ↓reduceIte, Nat.reduceEqDiff, Nat.reduceLT, Nat.reduceAdd, Nat.reduceSub, Nat.reduceMul, Nat.reduceLeDiff, reduceCtorEq, Int.reduceNeg, Int.reduceToNat, Int.reduceLT, Int.reduceLE, Int.reduceGE, Int.reduceGT, Int.reduceEq, h1, h2, h3]
  simp (dsimp := false) only [go_sem, ↓reduceIte, Nat.reduceEqDiff, Nat.reduceLT, Nat.reduceAdd, Nat.reduceSub, Nat.reduceMul, Nat.reduceLeDiff, reduceCtorEq, Int.reduceNeg, Int.reduceToNat, Int.reduceLT, Int.reduceLE, Int.reduceGE, Int.reduceGT, Int.reduceEq, h1, h2, h3]
  obtain ⟨ti', ad', tm', hr, hA⟩ := content11_det data bs (by omega)
  have hA := hA data
  obtain ⟨cd_, hd⟩ : ∃ d, d = conA false data ti' ad' tm' := ⟨_, rfl⟩
  rw [← hd] at hA
  unfold conA at hd
  refine AW.loopJ (M := []) (X := Nat) (fun j => ⟨112, tmL [(1, .lst 1 (data.map byteA)), (2, .lst 1 (bs.map byteA)), (3, .raw (.bool little)), (4, .raw (.int .u64 k)), (5, .raw (.int .u8 n)), (6, .ref (.st [.lst 1 (x.map byteA), .raw (.int .i64 ti), .raw (.int .i64 ad), .raw (.int .i64 tm)])), (13, .raw (.int .i64 j))], noOwn⟩)
    (fun j => j ≤ 4) (fun j => 4 - j) 0 (by decide) ?_ ?_
  · (refine Ghost.of ?_ (fun _ _ h => by cases h); (repeat' (first | exact all_nil | refine all_cons ?_ ?_)) <;> (first | (simp (dsimp := false) only [go_sem, ↓reduceIte, Nat.reduceEqDiff, Nat.reduceLT, Nat.reduceAdd, Nat.reduceSub, Nat.reduceMul, Nat.reduceLeDiff, reduceCtorEq, Int.reduceNeg, Int.reduceToNat, Int.reduceLT, Int.reduceLE, Int.reduceGE, Int.reduceGT, Int.reduceEq]; done) | (simp (dsimp := false) only [go_sem, ↓reduceIte, Nat.reduceEqDiff, Nat.reduceLT, Nat.reduceAdd, Nat.reduceSub, Nat.reduceMul, Nat.reduceLeDiff, reduceCtorEq, Int.reduceNeg, Int.reduceToNat, Int.reduceLT, Int.reduceLE, Int.reduceGE, Int.reduceGT, Int.reduceEq]; rfl)))
  intro j hj
  by_cases hj2 : (j : Int) < 4
  · have w1 : IntKind.i64.wrap ((j : Int) + 1) = ((j + 1 : Nat) : Int) := by rw [wrap_i64 (by omega) (by omega)]; omega
    obtain ⟨q, hq, hq2⟩ : ∃ q : Nat, (j : Int).tdiv 2 = q ∧ q < 2 := ⟨j / 2, by rw [Int.tdiv_eq_ediv_of_nonneg (by omega)]; omega, by omega⟩
    obtain ⟨r, hr', hr2⟩ : ∃ r : Nat, (j : Int).tmod 2 = r ∧ r < 2 := ⟨j % 2, by rw [Int.tmod_eq_emod_of_nonneg (by omega)]; omega, by omega⟩
    have wq : IntKind.i64.wrap (q : Int) = q := wrap_i64 (by omega) (by omega)
    have wr : IntKind.i64.wrap (r : Int) = r := wrap_i64 (by omega) (by omega)
    obtain ⟨X, TI, AD, TM, hX, hN⟩ : ∃ (X : List UInt8) (TI AD TM : Int), [AV.st [.lst 1 (x.map byteA), .raw (.int .i64 ti), .raw (.int .i64 ad), .raw (.int .i64 tm)], AV.st [.lst 1 (data.map byteA), .raw (.int .i64 ti'), .raw (.int .i64 ad'), .raw (.int .i64 tm')]].getD q .any = AV.st [.lst 1 (X.map byteA), .raw (.int .i64 TI), .raw (.int .i64 AD), .raw (.int .i64 TM)] ∧ X.length ≤ 600 := by
      match q, hq2 with
      | 0, _ => exact ⟨_, _, _, _, rfl, by omega⟩
      | 1, _ => exact ⟨_, _, _, _, rfl, by omega⟩
    obtain ⟨Y, hY, hYr⟩ : ∃ Y : Int, [AV.raw (.int .u64 k), AV.raw (.int .u64 (144115188075855873 + n))].getD r .any = AV.raw (.int .u64 Y) ∧ 0 ≤ Y ∧ Y < 18446744073709551616 := by
      match r, hr2 with
      | 0, _ => exact ⟨_, rfl, hk⟩
      | 1, _ => exact ⟨_, rfl, by omega⟩
    have hE1 := MakePrivate_pure little X TI AD TM Y (by omega) hYr.1 hYr.2
    have hE2 := rMakePrivate_pure little X TI AD TM Y (by omega) hYr.1 hYr.2
    have hE3 := MakeSafe_pure little X TI AD TM Y (by omega) hYr.1 hYr.2
    have hE4 := rMakeSafe_pure little X TI AD TM Y (by omega) hYr.1 hYr.2
    obtain ⟨y1, e1, hm1, _⟩ := mkA_form false little X TI AD TM Y
    obtain ⟨y2, e2, hm2, _⟩ := mkA_form true little X TI AD TM Y
    rw [hm1] at hE1 hE2
    rw [hm2] at hE3 hE4
    unfold conA at hE1 hE2 hE3 hE4
    simp (dsimp := false) only [go_sem, ↓reduceIte, Nat.reduceEqDiff, Nat.reduceLT, Nat.reduceAdd, Nat.reduceSub, Nat.reduceMul, Nat.reduceLeDiff, reduceCtorEq, Int.reduceNeg, Int.reduceToNat, Int.reduceLT, Int.reduceLE, Int.reduceGE, Int.reduceGT, Int.reduceEq, hj2]
    refine AW.draw (M := []) [.v, .v, .v, .c (cd_), .v, .v, .v, .v, .v, .e, .e] mixed (by kernel_rfl) ?_
    subst hd
    simp (dsimp := false) only [go_sem, ↓reduceIte, Nat.reduceEqDiff, Nat.reduceLT, Nat.reduceAdd, Nat.reduceSub, Nat.reduceMul, Nat.reduceLeDiff, reduceCtorEq, Int.reduceNeg, Int.reduceToNat, Int.reduceLT, Int.reduceLE, Int.reduceGE, Int.reduceGT, Int.reduceEq, hX, hq, wq]
    refine ⟨VSem.call rfl rfl hA, ?_⟩
    (try refine ⟨by omega, ?_⟩)
    intro k1 hk1
    (try simp (dsimp := false) only [go_sem, ↓reduceIte, Nat.reduceEqDiff, Nat.reduceLT, Nat.reduceAdd, Nat.reduceSub, Nat.reduceMul, Nat.reduceLeDiff, reduceCtorEq, Int.reduceNeg, Int.reduceToNat, Int.reduceLT, Int.reduceLE, Int.reduceGE, Int.reduceGT, Int.reduceEq, wn])
    refine ACs.pure hSn ?_
    simp (dsimp := false) only [go_sem, ↓reduceIte, Nat.reduceEqDiff, Nat.reduceLT, Nat.reduceAdd, Nat.reduceSub, Nat.reduceMul, Nat.reduceLeDiff, reduceCtorEq, Int.reduceNeg, Int.reduceToNat, Int.reduceLT, Int.reduceLE, Int.reduceGE, Int.reduceGT, Int.reduceEq, hr', wr, hY]
    (try refine ⟨by omega, ?_⟩)
    refine ACs.pure hE1 ?_
    simp (dsimp := false) only [go_sem, ↓reduceIte, Nat.reduceEqDiff, Nat.reduceLT, Nat.reduceAdd, Nat.reduceSub, Nat.reduceMul, Nat.reduceLeDiff, reduceCtorEq, Int.reduceNeg, Int.reduceToNat, Int.reduceLT, Int.reduceLE, Int.reduceGE, Int.reduceGT, Int.reduceEq]
    refine ACs.pure hE2 ?_
    simp (dsimp := false) only [go_sem, ↓reduceIte, Nat.reduceEqDiff, Nat.reduceLT, Nat.reduceAdd, Nat.reduceSub, Nat.reduceMul, Nat.reduceLeDiff, reduceCtorEq, Int.reduceNeg, Int.reduceToNat, Int.reduceLT, Int.reduceLE, Int.reduceGE, Int.reduceGT, Int.reduceEq]
    refine ACs.pure hE3 ?_
    simp (dsimp := false) only [go_sem, ↓reduceIte, Nat.reduceEqDiff, Nat.reduceLT, Nat.reduceAdd, Nat.reduceSub, Nat.reduceMul, Nat.reduceLeDiff, reduceCtorEq, Int.reduceNeg, Int.reduceToNat, Int.reduceLT, Int.reduceLE, Int.reduceGE, Int.reduceGT, Int.reduceEq]
    refine ACs.pure hE4 ?_
    simp (dsimp := false) only [go_sem, ↓reduceIte, Nat.reduceEqDiff, Nat.reduceLT, Nat.reduceAdd, Nat.reduceSub, Nat.reduceMul, Nat.reduceLeDiff, reduceCtorEq, Int.reduceNeg, Int.reduceToNat, Int.reduceLT, Int.reduceLE, Int.reduceGE, Int.reduceGT, Int.reduceEq, bytes_eq, w1]
    refine ⟨j + 1, by omega, ?_, by omega⟩
    (refine Ghost.of ?_ (fun _ _ h => by cases h); (repeat' (first | exact all_nil | refine all_cons ?_ ?_)) <;> (first | (simp (dsimp := false) only [go_sem, ↓reduceIte, Nat.reduceEqDiff, Nat.reduceLT, Nat.reduceAdd, Nat.reduceSub, Nat.reduceMul, Nat.reduceLeDiff, reduceCtorEq, Int.reduceNeg, Int.reduceToNat, Int.reduceLT, Int.reduceLE, Int.reduceGE, Int.reduceGT, Int.reduceEq]; done) | (simp (dsimp := false) only [go_sem, ↓reduceIte, Nat.reduceEqDiff, Nat.reduceLT, Nat.reduceAdd, Nat.reduceSub, Nat.reduceMul, Nat.reduceLeDiff, reduceCtorEq, Int.reduceNeg, Int.reduceToNat, Int.reduceLT, Int.reduceLE, Int.reduceGE, Int.reduceGT, Int.reduceEq]; rfl)))
  · simp (dsimp := false) only [go_sem, ↓reduceIte, Nat.reduceEqDiff, Nat.reduceLT, Nat.reduceAdd, Nat.reduceSub, Nat.reduceMul, Nat.reduceLeDiff, reduceCtorEq, Int.reduceNeg, Int.reduceToNat, Int.reduceLT, Int.reduceLE, Int.reduceGE, Int.reduceGT, Int.reduceEq, hj2]
set_option maxHeartbeats 16000000 in
theorem ProtectEncodes_pc (x : List UInt8) (ti ad tm : Int) (data bs : List UInt8) (little : Bool) (b : List UInt8) (how size : Int) (hh : 0 ≤ how ∧ how ≤ 65535) (hs : 0 ≤ size ∧ size ≤ 65535) :
    PC Try.prog 8 [conA false x ti ad tm, .lst 1 (data.map byteA), .lst 1 (bs.map byteA), .raw (.bool little), .lst 1 (b.map byteA), .raw (.int .u16 how), .raw (.int .u16 size)] (.raw (.bool true)) := by
  refine PC.of_ac ?_
  have ws : IntKind.i64.wrap size = size := wrap_i64 (by omega) (by omega)
  obtain ⟨m, hm⟩ : ∃ m : Nat, 499 + size.tmod 3 = m := ⟨(499 + size.tmod 3).toNat, by rw [Int.tmod_eq_emod_of_nonneg hs.1]; omega⟩
  have hm' : m ≤ 501 := by rw [Int.tmod_eq_emod_of_nonneg hs.1] at hm; omega
  have wm : IntKind.i64.wrap (m : Int) = m := wrap_i64 (by omega) (by omega)
  obtain ⟨zs, hzs⟩ : ∃ zs, List.replicate m (0 : UInt8) = zs := ⟨_, rfl⟩
  have hz : List.replicate m (AV.raw (.int .u8 0)) = zs.map byteA := by rw [← hzs]; exact zero_bytes m
  have hzl : zs.length = m := by rw [← hzs, List.length_replicate]
  unfold conA
  refine AC.of_body (M := []) Try.func8 rfl (by kernel_rfl) (Nat.le_of_ble_eq_true rfl) ?_; simp only [Try.results8, Try.ntmps8]
  simp (dsimp := false) only [go_sem, ↓reduceIte, Nat.reduceEqDiff, Nat.reduceLT, Nat.reduceAdd, Nat.reduceSub, Nat.reduceMul, Nat.reduceLeDiff, reduceCtorEq, Int.reduceNeg, Int.reduceToNat, Int.reduceLT, Int.reduceLE, Int.reduceGE, Int.reduceGT, Int.reduceEq]
  refine ACs.pure awake11_pure ?_
  by_cases h1 : (x.length : Int) > 600
  · simp (dsimp := false) only [go_sem, ↓reduceIte, Nat.reduceEqDiff, Nat.reduceLT, Nat.reduceAdd, Nat.reduceSub, Nat.reduceMul, Nat.reduceLeDiff, reduceCtorEq, Int.reduceNeg, Int.reduceToNat, Int.reduceLT, Int.reduceLE, Int.reduceGE, Int.reduceGT, Int.reduceEq, h1]
  by_cases h2 : (data.length : Int) > 500
  · simp (dsimp := false) only [go_sem, ↓reduceIte, Nat.reduceEqDiff, Nat.reduceLT, Nat.reduceAdd, Nat.reduceSub, Nat.reduceMul, Nat.reduceLeDiff, reduceCtorEq, Int.reduceNeg, Int.reduceToNat, Int.reduceLT, Int.reduceLE, Int.reduceGE, Int.reduceGT, Int.reduceEq, h1, h2]
  by_cases h3 : (bs.length : Int) > 40
  · simp (dsimp := false) only [go_sem, ↓reduceIte, Nat.reduceEqDiff, Nat.reduceLT, Nat.reduceAdd, Nat.reduceSub, Nat.reduceMul, Nat.reduceLeDiff, reduceCtorEq, Int.reduceNeg, Int.reduceToNat, Int.reduceLT, Int.reduceLE, Int.reduceGE, Int.reduceGT, Int.reduceEq, h1, h2, h3]
  by_cases h4 : (b.length : Int) > 300
  · simp (dsimp := false) only [go_sem, ↓reduceIte, Nat.reduceEqDiff, Nat.reduceLT, Nat.reduceAdd, Nat.reduceSub, Nat.reduceMul, Nat.reduceLeDiff, reduceCtorEq, Int.reduceNeg, Int.reduceToNat, Int.reduceLT, Int.reduceLE, Int.reduceGE, Int.reduceGT, Int.reduceEq, h1, h2, h3, h4]
  simp (dsimp := false) only [go_sem, ↓reduceIte, Nat.reduceEqDiff, Nat.reduceLT, Nat.reduceAdd, Nat.reduceSub, Nat.reduceMul, Nat.reduceLeDiff, reduceCtorEq, Int.reduceNeg, Int.reduceToNat, Int.reduceLT, Int.reduceLE, Int.reduceGE, Int.reduceGT, Int.reduceEq, h1, h2, h3, h4]
  obtain ⟨ti', ad', tm', hr, hA⟩ := content11_det data bs (by omega)
  have hZ := hA zs
  have hA := hA data
  obtain ⟨cd_, hd⟩ : ∃ d, d = conA false data ti' ad' tm' := ⟨_, rfl⟩
  rw [← hd] at hA
  obtain ⟨zd_, hzd⟩ : ∃ d, d = AV.lst 1 (zs.map byteA) := ⟨_, rfl⟩
  obtain ⟨ce_, hce⟩ : ∃ d, d = conA false zs ti' ad' tm' := ⟨_, rfl⟩
  rw [← hce] at hZ
  unfold conA at hd hce
  refine AW.loopJ (M := []) (X := Nat) (fun j => ⟨153, tmL [(1, .lst 1 (data.map byteA)), (2, .lst 1 (bs.map byteA)), (3, .raw (.bool little)), (4, .lst 1 (b.map byteA)), (5, .raw (.int .u16 how)), (6, .raw (.int .u16 size)), (7, .ref (.st [.lst 1 (x.map byteA), .raw (.int .i64 ti), .raw (.int .i64 ad), .raw (.int .i64 tm)])), (15, .raw (.int .i64 j))], noOwn⟩)
    (fun j => j ≤ 3) (fun j => 3 - j) 0 (by decide) ?_ ?_
  · (refine Ghost.of ?_ (fun _ _ h => by cases h); (repeat' (first | exact all_nil | refine all_cons ?_ ?_)) <;> (first | (simp (dsimp := false) only [go_sem, ↓reduceIte, Nat.reduceEqDiff, Nat.reduceLT, Nat.reduceAdd, Nat.reduceSub, Nat.reduceMul, Nat.reduceLeDiff, reduceCtorEq, Int.reduceNeg, Int.reduceToNat, Int.reduceLT, Int.reduceLE, Int.reduceGE, Int.reduceGT, Int.reduceEq]; done) | (simp (dsimp := false) only [go_sem, ↓reduceIte, Nat.reduceEqDiff, Nat.reduceLT, Nat.reduceAdd, Nat.reduceSub, Nat.reduceMul, Nat.reduceLeDiff, reduceCtorEq, Int.reduceNeg, Int.reduceToNat, Int.reduceLT, Int.reduceLE, Int.reduceGE, Int.reduceGT, Int.reduceEq]; rfl)))
  intro j hj
  by_cases hj2 : (j : Int) < 3
  · have w1 : IntKind.i64.wrap ((j : Int) + 1) = ((j + 1 : Nat) : Int) := by rw [wrap_i64 (by omega) (by omega)]; omega
    obtain ⟨X, TI, AD, TM, hX, hN⟩ : ∃ (X : List UInt8) (TI AD TM : Int), [AV.st [.lst 1 (x.map byteA), .raw (.int .i64 ti), .raw (.int .i64 ad), .raw (.int .i64 tm)], AV.st [.lst 1 (data.map byteA), .raw (.int .i64 ti'), .raw (.int .i64 ad'), .raw (.int .i64 tm')], AV.st [.lst 1 (zs.map byteA), .raw (.int .i64 ti'), .raw (.int .i64 ad'), .raw (.int .i64 tm')]].getD j .any = AV.st [.lst 1 (X.map byteA), .raw (.int .i64 TI), .raw (.int .i64 AD), .raw (.int .i64 TM)] ∧ X.length ≤ 600 := by
      match j, (show j < 3 by omega) with
      | 0, _ => exact ⟨_, _, _, _, rfl, by omega⟩
      | 1, _ => exact ⟨_, _, _, _, rfl, by omega⟩
      | 2, _ => exact ⟨_, _, _, _, rfl, by omega⟩
    have hE1 := conEncode_pure little X TI AD TM (by omega)
    have hE2 := rconEncode_pure little X TI AD TM (by omega)
    have hbl := conB_length little X TI AD TM
    have hdc : ∀ d, conChk little X TI AD TM = 0 → conDec (conB little X TI AD TM) little d → d = .tup [conA false X TI AD TM, .raw (.int .i64 0)] := fun d h0 h => h.of ⟨h0, rfl⟩
    have hdc2 : ∀ d, conChk little X TI AD TM = 0 → conDec (conB little X TI AD TM) (!little) d → d = .tup [conZ, .raw (.int .i64 100)] := fun d h0 h => h.unique (.inr ⟨fun _ _ _ _ h' => conIs.not (lt := little) (x := X) (ti := TI) (ad := AD) (tm := TM) ⟨h0, rfl⟩ h', rfl⟩)
    have hSm := Same11_refl false false X TI AD TM
    unfold conA conE at hE1 hE2
    unfold conA at hSm
    obtain ⟨B, hB⟩ : ∃ B, conB little X TI AD TM = B := ⟨_, rfl⟩
    rw [hB] at hE1 hE2 hbl hdc hdc2
    obtain ⟨E, hE⟩ : ∃ E, conChk little X TI AD TM = E := ⟨_, rfl⟩
    rw [hE] at hE1 hE2 hdc hdc2
    simp (dsimp := false) only [go_sem, ↓reduceIte, Nat.reduceEqDiff, Nat.reduceLT, Nat.reduceAdd, Nat.reduceSub, Nat.reduceMul, Nat.reduceLeDiff, reduceCtorEq, Int.reduceNeg, Int.reduceToNat, Int.reduceLT, Int.reduceLE, Int.reduceGE, Int.reduceGT, Int.reduceEq, hj2]
    refine AW.draw (M := []) [.v, .v, .v, .c (cd_), .v, .v, .v, .v, .c (zd_), .v, .c (ce_), .v, .v, .v, .v, .e, .e] mixed (by kernel_rfl) ?_
    subst hd hzd hce
    simp (dsimp := false) only [go_sem, ↓reduceIte, Nat.reduceEqDiff, Nat.reduceLT, Nat.reduceAdd, Nat.reduceSub, Nat.reduceMul, Nat.reduceLeDiff, reduceCtorEq, Int.reduceNeg, Int.reduceToNat, Int.reduceLT, Int.reduceLE, Int.reduceGE, Int.reduceGT, Int.reduceEq, ws, hm, wm, hX]
    refine ⟨VSem.call rfl rfl hA, ?_⟩
    refine ⟨by rw [← hzs]; exact VSem.zeros rfl rfl rfl (by omega), ?_⟩
    refine ⟨VSem.call rfl rfl hZ, ?_⟩
    (try refine ⟨by omega, ?_⟩)
    intro k1 hk1
    refine ACs.pure hE1 ?_
    simp (dsimp := false) only [go_sem, ↓reduceIte, Nat.reduceEqDiff, Nat.reduceLT, Nat.reduceAdd, Nat.reduceSub, Nat.reduceMul, Nat.reduceLeDiff, reduceCtorEq, Int.reduceNeg, Int.reduceToNat, Int.reduceLT, Int.reduceLE, Int.reduceGE, Int.reduceGT, Int.reduceEq]
    refine ACs.pure hE2 ?_
    by_cases h0 : E = 0
    · rw [if_pos h0]
      simp (dsimp := false) only [go_sem, ↓reduceIte, Nat.reduceEqDiff, Nat.reduceLT, Nat.reduceAdd, Nat.reduceSub, Nat.reduceMul, Nat.reduceLeDiff, reduceCtorEq, Int.reduceNeg, Int.reduceToNat, Int.reduceLT, Int.reduceLE, Int.reduceGE, Int.reduceGT, Int.reduceEq, h0, bytes_eq]
      refine ACs.pn (conDecode_pn B little (by omega)) ?_
      intro d hd
      have hd := hdc d h0 hd
      subst hd
      unfold conA
      simp (dsimp := false) only [go_sem, ↓reduceIte, Nat.reduceEqDiff, Nat.reduceLT, Nat.reduceAdd, Nat.reduceSub, Nat.reduceMul, Nat.reduceLeDiff, reduceCtorEq, Int.reduceNeg, Int.reduceToNat, Int.reduceLT, Int.reduceLE, Int.reduceGE, Int.reduceGT, Int.reduceEq]
      intro k2 hk2
      refine ACs.pn (conDecode_pn B (!little) (by omega)) ?_
      intro d hd
      have hd := hdc2 d h0 hd
      subst hd
      unfold conZ
      simp (dsimp := false) only [go_sem, ↓reduceIte, Nat.reduceEqDiff, Nat.reduceLT, Nat.reduceAdd, Nat.reduceSub, Nat.reduceMul, Nat.reduceLeDiff, reduceCtorEq, Int.reduceNeg, Int.reduceToNat, Int.reduceLT, Int.reduceLE, Int.reduceGE, Int.reduceGT, Int.reduceEq]
      intro k3 hk3
      have q1 := none_ne hk2
      have q2 := none_ne hk3
      rw [Own.set_ne _ _ q2] at hk3
      have q3 := none_ne hk3
      have a1 : ∀ (own : Own) o, (own.set k2 o) k1 = own k1 := fun own o => Own.set_ne _ _ (Ne.symm q1)
      have a2 : ∀ (own : Own) o, (own.set k1 o) k2 = own k2 := fun own o => Own.set_ne _ _ q1
      have a3 : ∀ (own : Own) o, (own.set k3 o) k2 = own k2 := fun own o => Own.set_ne _ _ (Ne.symm q2)
      have a4 : ∀ (own : Own) o, (own.set k3 o) k1 = own k1 := fun own o => Own.set_ne _ _ (Ne.symm q3)
      simp (dsimp := false) only [go_sem, ↓reduceIte, Nat.reduceEqDiff, Nat.reduceLT, Nat.reduceAdd, Nat.reduceSub, Nat.reduceMul, Nat.reduceLeDiff, reduceCtorEq, Int.reduceNeg, Int.reduceToNat, Int.reduceLT, Int.reduceLE, Int.reduceGE, Int.reduceGT, Int.reduceEq, a1, a2, a3, a4]
      refine ACs.pure hSm ?_
      simp (dsimp := false) only [go_sem, ↓reduceIte, Nat.reduceEqDiff, Nat.reduceLT, Nat.reduceAdd, Nat.reduceSub, Nat.reduceMul, Nat.reduceLeDiff, reduceCtorEq, Int.reduceNeg, Int.reduceToNat, Int.reduceLT, Int.reduceLE, Int.reduceGE, Int.reduceGT, Int.reduceEq]
      refine AW.loopJ (M := []) (X := Nat) (fun q => ⟨153, tmL [(1, .lst 1 (data.map byteA)), (2, .lst 1 (bs.map byteA)), (3, .raw (.bool little)), (4, .lst 1 (b.map byteA)), (5, .raw (.int .u16 how)), (6, .raw (.int .u16 size)), (7, .ref (.st [.lst 1 (x.map byteA), .raw (.int .i64 ti), .raw (.int .i64 ad), .raw (.int .i64 tm)])), (15, .raw (.int .i64 j)), (19, .lst 1 (B.map byteA)), (25, .raw (.int .i64 q))], noOwn⟩)
        (fun q => q ≤ 2) (fun q => 2 - q) 0 (by decide) ?_ ?_
      · (refine Ghost.of ?_ (fun _ _ h => by cases h); (repeat' (first | exact all_nil | refine all_cons ?_ ?_)) <;> (first | (simp (dsimp := false) only [go_sem, ↓reduceIte, Nat.reduceEqDiff, Nat.reduceLT, Nat.reduceAdd, Nat.reduceSub, Nat.reduceMul, Nat.reduceLeDiff, reduceCtorEq, Int.reduceNeg, Int.reduceToNat, Int.reduceLT, Int.reduceLE, Int.reduceGE, Int.reduceGT, Int.reduceEq]; done) | (simp (dsimp := false) only [go_sem, ↓reduceIte, Nat.reduceEqDiff, Nat.reduceLT, Nat.reduceAdd, Nat.reduceSub, Nat.reduceMul, Nat.reduceLeDiff, reduceCtorEq, Int.reduceNeg, Int.reduceToNat, Int.reduceLT, Int.reduceLE, Int.reduceGE, Int.reduceGT, Int.reduceEq]; rfl)))
      intro q hq
      by_cases hq2 : (q : Int) < 2
      · have w2 : IntKind.i64.wrap ((q : Int) + 1) = ((q + 1 : Nat) : Int) := by rw [wrap_i64 (by omega) (by omega)]; omega
        simp (dsimp := false) only [go_sem, ↓reduceIte, Nat.reduceEqDiff, Nat.reduceLT, Nat.reduceAdd, Nat.reduceSub, Nat.reduceMul, Nat.reduceLeDiff, reduceCtorEq, Int.reduceNeg, Int.reduceToNat, Int.reduceLT, Int.reduceLE, Int.reduceGE, Int.reduceGT, Int.reduceEq, hq2]
        refine ACs.pn (Spoil_pn B how (by (try simp only [List.length_nil]); omega) hh.1 hh.2) ?_
        rintro _ ⟨sp, rfl, hspl⟩
        obtain ⟨Z, hZZ, hZl⟩ : ∃ Z : List UInt8, [AV.lst 1 (b.map byteA), AV.lst 1 (sp.map byteA)].getD q .any = AV.lst 1 (Z.map byteA) ∧ Z.length ≤ 3000 := by
          match q, (show q < 2 by omega) with
          | 0, _ => exact ⟨_, rfl, by omega⟩
          | 1, _ => exact ⟨_, rfl, by (try simp only [List.length_nil] at hspl); omega⟩
        simp (dsimp := false) only [go_sem, ↓reduceIte, Nat.reduceEqDiff, Nat.reduceLT, Nat.reduceAdd, Nat.reduceSub, Nat.reduceMul, Nat.reduceLeDiff, reduceCtorEq, Int.reduceNeg, Int.reduceToNat, Int.reduceLT, Int.reduceLE, Int.reduceGE, Int.reduceGT, Int.reduceEq, hZZ]
        (try refine ⟨by omega, ?_⟩)
        refine ACs.pn (conDecode_pn Z little (by omega)) ?_
        intro d1 hd1
        obtain ⟨ul, u0, u1, u2, u3, ue, rfl⟩ := hd1.form
        have hsm := Same11_refl ul ul u0 u1 u2 u3
        unfold conA at hd1 hsm ⊢
        simp (dsimp := false) only [go_sem, ↓reduceIte, Nat.reduceEqDiff, Nat.reduceLT, Nat.reduceAdd, Nat.reduceSub, Nat.reduceMul, Nat.reduceLeDiff, reduceCtorEq, Int.reduceNeg, Int.reduceToNat, Int.reduceLT, Int.reduceLE, Int.reduceGE, Int.reduceGT, Int.reduceEq]
        intro k4 hk4
        refine ACs.pn (rconDecode_pn Z little (by omega)) ?_
        intro d2 hd2
        have hd2 := hd2.unique hd1
        subst hd2
        simp (dsimp := false) only [go_sem, ↓reduceIte, Nat.reduceEqDiff, Nat.reduceLT, Nat.reduceAdd, Nat.reduceSub, Nat.reduceMul, Nat.reduceLeDiff, reduceCtorEq, Int.reduceNeg, Int.reduceToNat, Int.reduceLT, Int.reduceLE, Int.reduceGE, Int.reduceGT, Int.reduceEq]
        intro k5 hk5
        have q5 := none_ne hk5
        have f5 : ∀ (own : Own) o, (own.set k5 o) k4 = own k4 := fun own o => Own.set_ne _ _ (Ne.symm q5)
        simp (dsimp := false) only [go_sem, ↓reduceIte, Nat.reduceEqDiff, Nat.reduceLT, Nat.reduceAdd, Nat.reduceSub, Nat.reduceMul, Nat.reduceLeDiff, reduceCtorEq, Int.reduceNeg, Int.reduceToNat, Int.reduceLT, Int.reduceLE, Int.reduceGE, Int.reduceGT, Int.reduceEq, f5]
        refine ACs.pure hsm ?_
        simp (dsimp := false) only [go_sem, ↓reduceIte, Nat.reduceEqDiff, Nat.reduceLT, Nat.reduceAdd, Nat.reduceSub, Nat.reduceMul, Nat.reduceLeDiff, reduceCtorEq, Int.reduceNeg, Int.reduceToNat, Int.reduceLT, Int.reduceLE, Int.reduceGE, Int.reduceGT, Int.reduceEq, w2]
        refine ⟨q + 1, by omega, ?_, by omega⟩
        (refine Ghost.of ?_ (fun _ _ h => by cases h); (repeat' (first | exact all_nil | refine all_cons ?_ ?_)) <;> (first | (simp (dsimp := false) only [go_sem, ↓reduceIte, Nat.reduceEqDiff, Nat.reduceLT, Nat.reduceAdd, Nat.reduceSub, Nat.reduceMul, Nat.reduceLeDiff, reduceCtorEq, Int.reduceNeg, Int.reduceToNat, Int.reduceLT, Int.reduceLE, Int.reduceGE, Int.reduceGT, Int.reduceEq]; done) | (simp (dsimp := false) only [go_sem, ↓reduceIte, Nat.reduceEqDiff, Nat.reduceLT, Nat.reduceAdd, Nat.reduceSub, Nat.reduceMul, Nat.reduceLeDiff, reduceCtorEq, Int.reduceNeg, Int.reduceToNat, Int.reduceLT, Int.reduceLE, Int.reduceGE, Int.reduceGT, Int.reduceEq]; rfl)))
      · simp (dsimp := false) only [go_sem, ↓reduceIte, Nat.reduceEqDiff, Nat.reduceLT, Nat.reduceAdd, Nat.reduceSub, Nat.reduceMul, Nat.reduceLeDiff, reduceCtorEq, Int.reduceNeg, Int.reduceToNat, Int.reduceLT, Int.reduceLE, Int.reduceGE, Int.reduceGT, Int.reduceEq, hq2, w1]
        refine ⟨j + 1, by omega, ?_, by omega⟩
        (refine Ghost.of ?_ (fun _ _ h => by cases h); (repeat' (first | exact all_nil | refine all_cons ?_ ?_)) <;> (first | (simp (dsimp := false) only [go_sem, ↓reduceIte, Nat.reduceEqDiff, Nat.reduceLT, Nat.reduceAdd, Nat.reduceSub, Nat.reduceMul, Nat.reduceLeDiff, reduceCtorEq, Int.reduceNeg, Int.reduceToNat, Int.reduceLT, Int.reduceLE, Int.reduceGE, Int.reduceGT, Int.reduceEq]; done) | (simp (dsimp := false) only [go_sem, ↓reduceIte, Nat.reduceEqDiff, Nat.reduceLT, Nat.reduceAdd, Nat.reduceSub, Nat.reduceMul, Nat.reduceLeDiff, reduceCtorEq, Int.reduceNeg, Int.reduceToNat, Int.reduceLT, Int.reduceLE, Int.reduceGE, Int.reduceGT, Int.reduceEq]; rfl)))
    · rw [if_neg h0]
      have hbn : bytesOf [] = some [] := rfl
      simp (dsimp := false) only [go_sem, ↓reduceIte, Nat.reduceEqDiff, Nat.reduceLT, Nat.reduceAdd, Nat.reduceSub, Nat.reduceMul, Nat.reduceLeDiff, reduceCtorEq, Int.reduceNeg, Int.reduceToNat, Int.reduceLT, Int.reduceLE, Int.reduceGE, Int.reduceGT, Int.reduceEq, h0, bytes_eq, hbn]
      refine AW.loopJ (M := []) (X := Nat) (fun q => ⟨153, tmL [(1, .lst 1 (data.map byteA)), (2, .lst 1 (bs.map byteA)), (3, .raw (.bool little)), (4, .lst 1 (b.map byteA)), (5, .raw (.int .u16 how)), (6, .raw (.int .u16 size)), (7, .ref (.st [.lst 1 (x.map byteA), .raw (.int .i64 ti), .raw (.int .i64 ad), .raw (.int .i64 tm)])), (15, .raw (.int .i64 j)), (19, .lst 1 (([] : List UInt8).map byteA)), (25, .raw (.int .i64 q))], noOwn⟩)
        (fun q => q ≤ 2) (fun q => 2 - q) 0 (by decide) ?_ ?_
      · (refine Ghost.of ?_ (fun _ _ h => by cases h); (repeat' (first | exact all_nil | refine all_cons ?_ ?_)) <;> (first | (simp (dsimp := false) only [go_sem, ↓reduceIte, Nat.reduceEqDiff, Nat.reduceLT, Nat.reduceAdd, Nat.reduceSub, Nat.reduceMul, Nat.reduceLeDiff, reduceCtorEq, Int.reduceNeg, Int.reduceToNat, Int.reduceLT, Int.reduceLE, Int.reduceGE, Int.reduceGT, Int.reduceEq]; done) | (simp (dsimp := false) only [go_sem, ↓reduceIte, Nat.reduceEqDiff, Nat.reduceLT, Nat.reduceAdd, Nat.reduceSub, Nat.reduceMul, Nat.reduceLeDiff, reduceCtorEq, Int.reduceNeg, Int.reduceToNat, Int.reduceLT, Int.reduceLE, Int.reduceGE, Int.reduceGT, Int.reduceEq]; rfl)))
      intro q hq
      by_cases hq2 : (q : Int) < 2
      · have w2 : IntKind.i64.wrap ((q : Int) + 1) = ((q + 1 : Nat) : Int) := by rw [wrap_i64 (by omega) (by omega)]; omega
        simp (dsimp := false) only [go_sem, ↓reduceIte, Nat.reduceEqDiff, Nat.reduceLT, Nat.reduceAdd, Nat.reduceSub, Nat.reduceMul, Nat.reduceLeDiff, reduceCtorEq, Int.reduceNeg, Int.reduceToNat, Int.reduceLT, Int.reduceLE, Int.reduceGE, Int.reduceGT, Int.reduceEq, hq2]
        refine ACs.pn (Spoil_pn ([] : List UInt8) how (by (try simp only [List.length_nil]); omega) hh.1 hh.2) ?_
        rintro _ ⟨sp, rfl, hspl⟩
        obtain ⟨Z, hZZ, hZl⟩ : ∃ Z : List UInt8, [AV.lst 1 (b.map byteA), AV.lst 1 (sp.map byteA)].getD q .any = AV.lst 1 (Z.map byteA) ∧ Z.length ≤ 3000 := by
          match q, (show q < 2 by omega) with
          | 0, _ => exact ⟨_, rfl, by omega⟩
          | 1, _ => exact ⟨_, rfl, by (try simp only [List.length_nil] at hspl); omega⟩
        simp (dsimp := false) only [go_sem, ↓reduceIte, Nat.reduceEqDiff, Nat.reduceLT, Nat.reduceAdd, Nat.reduceSub, Nat.reduceMul, Nat.reduceLeDiff, reduceCtorEq, Int.reduceNeg, Int.reduceToNat, Int.reduceLT, Int.reduceLE, Int.reduceGE, Int.reduceGT, Int.reduceEq, hZZ]
        (try refine ⟨by omega, ?_⟩)
        refine ACs.pn (conDecode_pn Z little (by omega)) ?_
        intro d1 hd1
        obtain ⟨ul, u0, u1, u2, u3, ue, rfl⟩ := hd1.form
        have hsm := Same11_refl ul ul u0 u1 u2 u3
        unfold conA at hd1 hsm ⊢
        simp (dsimp := false) only [go_sem, ↓reduceIte, Nat.reduceEqDiff, Nat.reduceLT, Nat.reduceAdd, Nat.reduceSub, Nat.reduceMul, Nat.reduceLeDiff, reduceCtorEq, Int.reduceNeg, Int.reduceToNat, Int.reduceLT, Int.reduceLE, Int.reduceGE, Int.reduceGT, Int.reduceEq]
        intro k4 hk4
        refine ACs.pn (rconDecode_pn Z little (by omega)) ?_
        intro d2 hd2
        have hd2 := hd2.unique hd1
        subst hd2
        simp (dsimp := false) only [go_sem, ↓reduceIte, Nat.reduceEqDiff, Nat.reduceLT, Nat.reduceAdd, Nat.reduceSub, Nat.reduceMul, Nat.reduceLeDiff, reduceCtorEq, Int.reduceNeg, Int.reduceToNat, Int.reduceLT, Int.reduceLE, Int.reduceGE, Int.reduceGT, Int.reduceEq]
        intro k5 hk5
        have q5 := none_ne hk5
        have f5 : ∀ (own : Own) o, (own.set k5 o) k4 = own k4 := fun own o => Own.set_ne _ _ (Ne.symm q5)
        simp (dsimp := false) only [go_sem, ↓reduceIte, Nat.reduceEqDiff, Nat.reduceLT, Nat.reduceAdd, Nat.reduceSub, Nat.reduceMul, Nat.reduceLeDiff, reduceCtorEq, Int.reduceNeg, Int.reduceToNat, Int.reduceLT, Int.reduceLE, Int.reduceGE, Int.reduceGT, Int.reduceEq, f5]
        refine ACs.pure hsm ?_
        simp (dsimp := false) only [go_sem, ↓reduceIte, Nat.reduceEqDiff, Nat.reduceLT, Nat.reduceAdd, Nat.reduceSub, Nat.reduceMul, Nat.reduceLeDiff, reduceCtorEq, Int.reduceNeg, Int.reduceToNat, Int.reduceLT, Int.reduceLE, Int.reduceGE, Int.reduceGT, Int.reduceEq, w2]
        refine ⟨q + 1, by omega, ?_, by omega⟩
        (refine Ghost.of ?_ (fun _ _ h => by cases h); (repeat' (first | exact all_nil | refine all_cons ?_ ?_)) <;> (first | (simp (dsimp := false) only [go_sem, ↓reduceIte, Nat.reduceEqDiff, Nat.reduceLT, Nat.reduceAdd, Nat.reduceSub, Nat.reduceMul, Nat.reduceLeDiff, reduceCtorEq, Int.reduceNeg, Int.reduceToNat, Int.reduceLT, Int.reduceLE, Int.reduceGE, Int.reduceGT, Int.reduceEq]; done) | (simp (dsimp := false) only [go_sem, ↓reduceIte, Nat.reduceEqDiff, Nat.reduceLT, Nat.reduceAdd, Nat.reduceSub, Nat.reduceMul, Nat.reduceLeDiff, reduceCtorEq, Int.reduceNeg, Int.reduceToNat, Int.reduceLT, Int.reduceLE, Int.reduceGE, Int.reduceGT, Int.reduceEq]; rfl)))
      · simp (dsimp := false) only [go_sem, ↓reduceIte, Nat.reduceEqDiff, Nat.reduceLT, Nat.reduceAdd, Nat.reduceSub, Nat.reduceMul, Nat.reduceLeDiff, reduceCtorEq, Int.reduceNeg, Int.reduceToNat, Int.reduceLT, Int.reduceLE, Int.reduceGE, Int.reduceGT, Int.reduceEq, hq2, w1]
        refine ⟨j + 1, by omega, ?_, by omega⟩
        (refine Ghost.of ?_ (fun _ _ h => by cases h); (repeat' (first | exact all_nil | refine all_cons ?_ ?_)) <;> (first | (simp (dsimp := false) only [go_sem, ↓reduceIte, Nat.reduceEqDiff, Nat.reduceLT, Nat.reduceAdd, Nat.reduceSub, Nat.reduceMul, Nat.reduceLeDiff, reduceCtorEq, Int.reduceNeg, Int.reduceToNat, Int.reduceLT, Int.reduceLE, Int.reduceGE, Int.reduceGT, Int.reduceEq]; done) | (simp (dsimp := false) only [go_sem, ↓reduceIte, Nat.reduceEqDiff, Nat.reduceLT, Nat.reduceAdd, Nat.reduceSub, Nat.reduceMul, Nat.reduceLeDiff, reduceCtorEq, Int.reduceNeg, Int.reduceToNat, Int.reduceLT, Int.reduceLE, Int.reduceGE, Int.reduceGT, Int.reduceEq]; rfl)))
  · simp (dsimp := false) only [go_sem, ↓reduceIte, Nat.reduceEqDiff, Nat.reduceLT, Nat.reduceAdd, Nat.reduceSub, Nat.reduceMul, Nat.reduceLeDiff, reduceCtorEq, Int.reduceNeg, Int.reduceToNat, Int.reduceLT, Int.reduceLE, Int.reduceGE, Int.reduceGT, Int.reduceEq, hj2]
end Go.Proofs.Ytghnigbihllnmaa.Fn
