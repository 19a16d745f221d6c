/- The law on what is decoded of the messages of a KDC. -/
import Derived.Test.YtghnigbihllnmaaGreatFn60
import Derived.Test.YtghnigbihllnmaaGreatFn20
set_option linter.unusedVariables false
set_option linter.unusedSimpArgs false
namespace Go.Proofs.YtghnigbihllnmaaGreat.Fn
open Go Hl Sp Ty
set_option maxRecDepth 100000
theorem reqDec.form {b : List UInt8} {d : AV} (h : reqDec b d) : ∃ (lt : Bool) (n : ByteArray) (i : ByteArray) (r : ByteArray) (tm : Int) (li : Int) (s : ByteArray) (t : ByteArray) (e : Int), d = .tup [reqA lt n i r tm li s t, .raw (.int .i64 e)] := by
  rcases h with ⟨lt, n, i, r, tm, li, s, t, h1, rfl⟩ | ⟨h1, rfl⟩
  · exact ⟨_, _, _, _, _, _, _, _, _, rfl⟩
  · exact ⟨false, ⟨#[]⟩, ⟨#[]⟩, ⟨#[]⟩, 0, 0, ⟨#[]⟩, ⟨#[]⟩, _, rfl⟩
theorem repDec.form {b : List UInt8} {d : AV} (h : repDec b d) : ∃ (lt : Bool) (n : ByteArray) (i : ByteArray) (r : ByteArray) (tm : Int) (ex : Int) (kv : Int) (x : List UInt8) (e : Int), d = .tup [repA lt n i r tm ex kv x, .raw (.int .i64 e)] := by
  rcases h with ⟨lt, n, i, r, tm, ex, kv, x, h1, rfl⟩ | ⟨h1, rfl⟩
  · exact ⟨_, _, _, _, _, _, _, _, _, rfl⟩
  · exact ⟨false, ⟨#[]⟩, ⟨#[]⟩, ⟨#[]⟩, 0, 0, 0, [], _, rfl⟩
theorem prtDec.form {b : List UInt8} {lt : Bool} {d : AV} (h : prtDec b lt d) : ∃ (lt0 : Bool) (k : Int) (n : ByteArray) (i : ByteArray) (r : ByteArray) (li : Int) (kv : Int) (x : List UInt8) (tm : Int) (e : Int), d = .tup [prtA lt0 k n i r li kv x tm, .raw (.int .i64 e)] := by
  rcases h with ⟨k, n, i, r, li, kv, x, tm, h1, rfl⟩ | ⟨h1, rfl⟩
  · exact ⟨lt, _, _, _, _, _, _, _, _, _, rfl⟩
  · exact ⟨false, 0, ⟨#[]⟩, ⟨#[]⟩, ⟨#[]⟩, 0, 0, [], 0, _, rfl⟩
theorem errDec.form {b : List UInt8} {d : AV} (h : errDec b d) : ∃ (lt : Bool) (n : ByteArray) (i : ByteArray) (r : ByteArray) (tm : Int) (cd : Int) (s : ByteArray) (e : Int), d = .tup [errA lt n i r tm cd s, .raw (.int .i64 e)] := by
  rcases h with ⟨lt, n, i, r, tm, cd, s, h1, rfl⟩ | ⟨h1, rfl⟩
  · exact ⟨_, _, _, _, _, _, _, _, rfl⟩
  · exact ⟨false, ⟨#[]⟩, ⟨#[]⟩, ⟨#[]⟩, 0, 0, ⟨#[]⟩, _, rfl⟩
set_option maxHeartbeats 32000000 in
theorem KdcDecodes_pc (raw bs sealed : List UInt8) (little other : Bool) (kind how : Int) (hk : 0 ≤ kind ∧ kind ≤ 255) (hh : 0 ≤ how ∧ how ≤ 65535) :
    PC Tryz.prog 3 [.lst 1 (raw.map byteA), .lst 1 (bs.map byteA), .lst 1 (sealed.map byteA), .raw (.bool little), .raw (.bool other), .raw (.int .u8 kind), .raw (.int .u16 how)] (.raw (.bool true)) := by
  refine PC.of_ac ?_
  have wk : IntKind.i64.wrap kind = kind := wrap_i64 (by omega) (by omega)
  refine AC.of_body (M := []) Tryz.func3 rfl (by kernel_rfl) (Nat.le_of_ble_eq_true rfl) ?_; simp only [Tryz.results3, Tryz.ntmps3]
  simp (dsimp := false) only [go_sem, ↓reduceIte, Nat.reduceEqDiff, Nat.reduceLT, Nat.reduceAdd, Nat.reduceSub, Nat.reduceMul, Nat.reduceLeDiff, reduceCtorEq, Int.reduceNeg, Int.reduceToNat, Int.reduceLT, Int.reduceLE, Int.reduceGE, Int.reduceGT, Int.reduceEq]
  refine ACs.pure awake9_pure ?_
  by_cases h1 : (raw.length : Int) > 300
  · simp (dsimp := false) only [go_sem, ↓reduceIte, Nat.reduceEqDiff, Nat.reduceLT, Nat.reduceAdd, Nat.reduceSub, Nat.reduceMul, Nat.reduceLeDiff, reduceCtorEq, Int.reduceNeg, Int.reduceToNat, Int.reduceLT, Int.reduceLE, Int.reduceGE, Int.reduceGT, Int.reduceEq, h1]
  by_cases h2 : (bs.length : Int) > 40
  · simp (dsimp := false) only [go_sem, ↓reduceIte, Nat.reduceEqDiff, Nat.reduceLT, Nat.reduceAdd, Nat.reduceSub, Nat.reduceMul, Nat.reduceLeDiff, reduceCtorEq, Int.reduceNeg, Int.reduceToNat, Int.reduceLT, Int.reduceLE, Int.reduceGE, Int.reduceGT, Int.reduceEq, h1, h2]
  by_cases h3 : (sealed.length : Int) > 300
  · simp (dsimp := false) only [go_sem, ↓reduceIte, Nat.reduceEqDiff, Nat.reduceLT, Nat.reduceAdd, Nat.reduceSub, Nat.reduceMul, Nat.reduceLeDiff, reduceCtorEq, Int.reduceNeg, Int.reduceToNat, Int.reduceLT, Int.reduceLE, Int.reduceGE, Int.reduceGT, Int.reduceEq, h1, h2, h3]
  rcases tmod4 hk.1 with h4 | h4 | h4 | h4
  · obtain ⟨d0, hA, n, i, r, tm, li, s, t, hd, hok, hz⟩ := request9_det bs little (by omega)
    subst hd
    have hE := rreqEncode_pure little n i r tm li s t (by omega) (by omega) (by omega) (by omega) (by omega)
    have hl : (if reqChk little n i r tm li s t = 0 then reqB little n i r tm li s t else []).length ≤ 2000 := by
      have := reqB_length little n i r tm li s t
      split
      · omega
      · exact Nat.zero_le _
    unfold reqA reqE at hE
    obtain ⟨M, hM⟩ : ∃ M, (if reqChk little n i r tm li s t = 0 then reqB little n i r tm li s t else []) = M := ⟨_, rfl⟩
    rw [hM] at hE hl
    obtain ⟨E, hEE⟩ : ∃ E, reqChk little n i r tm li s t = E := ⟨_, rfl⟩
    rw [hEE] at hE
    unfold reqA at hA
    simp (dsimp := false) only [go_sem, ↓reduceIte, Nat.reduceEqDiff, Nat.reduceLT, Nat.reduceAdd, Nat.reduceSub, Nat.reduceMul, Nat.reduceLeDiff, reduceCtorEq, Int.reduceNeg, Int.reduceToNat, Int.reduceLT, Int.reduceLE, Int.reduceGE, Int.reduceGT, Int.reduceEq, h1, h2, h3, h4]
    refine ACs.pure hA ?_
    simp (dsimp := false) only [go_sem, ↓reduceIte, Nat.reduceEqDiff, Nat.reduceLT, Nat.reduceAdd, Nat.reduceSub, Nat.reduceMul, Nat.reduceLeDiff, reduceCtorEq, Int.reduceNeg, Int.reduceToNat, Int.reduceLT, Int.reduceLE, Int.reduceGE, Int.reduceGT, Int.reduceEq]
    refine ACs.pure hE ?_
    simp (dsimp := false) only [go_sem, ↓reduceIte, Nat.reduceEqDiff, Nat.reduceLT, Nat.reduceAdd, Nat.reduceSub, Nat.reduceMul, Nat.reduceLeDiff, reduceCtorEq, Int.reduceNeg, Int.reduceToNat, Int.reduceLT, Int.reduceLE, Int.reduceGE, Int.reduceGT, Int.reduceEq]
    refine AW.loopJ (M := []) (X := Nat) (fun j => ⟨172, tmL [(0, .lst 1 (raw.map byteA)), (4, .raw (.bool other)), (6, .raw (.int .u16 how)), (15, .lst 1 (M.map byteA)), (16, .raw (.int .i64 j))], noOwn⟩)
      (fun j => j ≤ 3) (fun j => 3 - j) 0 (by decide) ?_ ?_
    · (refine Ghost.of ?_ (fun _ _ h => by cases h); (repeat' (first | exact all_nil | refine all_cons ?_ ?_)) <;> (first | (simp (dsimp := false) only [go_sem, ↓reduceIte, Nat.reduceEqDiff, Nat.reduceLT, Nat.reduceAdd, Nat.reduceSub, Nat.reduceMul, Nat.reduceLeDiff, reduceCtorEq, Int.reduceNeg, Int.reduceToNat, Int.reduceLT, Int.reduceLE, Int.reduceGE, Int.reduceGT, Int.reduceEq]; done) | (simp (dsimp := false) only [go_sem, ↓reduceIte, Nat.reduceEqDiff, Nat.reduceLT, Nat.reduceAdd, Nat.reduceSub, Nat.reduceMul, Nat.reduceLeDiff, reduceCtorEq, Int.reduceNeg, Int.reduceToNat, Int.reduceLT, Int.reduceLE, Int.reduceGE, Int.reduceGT, Int.reduceEq]; rfl)))
    intro j hj
    by_cases hj2 : (j : Int) < 3
    · have w1 : IntKind.i64.wrap ((j : Int) + 1) = ((j + 1 : Nat) : Int) := by rw [wrap_i64 (by omega) (by omega)]; omega
      simp (dsimp := false) only [go_sem, ↓reduceIte, Nat.reduceEqDiff, Nat.reduceLT, Nat.reduceAdd, Nat.reduceSub, Nat.reduceMul, Nat.reduceLeDiff, reduceCtorEq, Int.reduceNeg, Int.reduceToNat, Int.reduceLT, Int.reduceLE, Int.reduceGE, Int.reduceGT, Int.reduceEq, hj2]
      refine ACs.pn (Spoil_pn M how (by omega) hh.1 hh.2) ?_
      rintro _ ⟨sp, rfl, hspl⟩
      obtain ⟨X, hX, hXl⟩ : ∃ X : List UInt8, [AV.lst 1 (raw.map byteA), AV.lst 1 (M.map byteA), AV.lst 1 (sp.map byteA)].getD j .any = AV.lst 1 (X.map byteA) ∧ X.length ≤ 3000 := by
        match j, (show j < 3 by omega) with
        | 0, _ => exact ⟨_, rfl, by omega⟩
        | 1, _ => exact ⟨_, rfl, by omega⟩
        | 2, _ => exact ⟨_, rfl, by omega⟩
      simp (dsimp := false) only [go_sem, ↓reduceIte, Nat.reduceEqDiff, Nat.reduceLT, Nat.reduceAdd, Nat.reduceSub, Nat.reduceMul, Nat.reduceLeDiff, reduceCtorEq, Int.reduceNeg, Int.reduceToNat, Int.reduceLT, Int.reduceLE, Int.reduceGE, Int.reduceGT, Int.reduceEq, hX]
      (try refine ⟨by omega, ?_⟩)
      refine ACs.pn (reqDecode_pn X (by omega)) ?_
      intro d1 hd1
      obtain ⟨_, _, _, _, _, _, _, _, _, rfl⟩ := hd1.form
      unfold reqA at hd1 ⊢
      simp (dsimp := false) only [go_sem, ↓reduceIte, Nat.reduceEqDiff, Nat.reduceLT, Nat.reduceAdd, Nat.reduceSub, Nat.reduceMul, Nat.reduceLeDiff, reduceCtorEq, Int.reduceNeg, Int.reduceToNat, Int.reduceLT, Int.reduceLE, Int.reduceGE, Int.reduceGT, Int.reduceEq]
      intro k1 hk1
      refine ACs.pn (rreqDecode_pn X (by omega)) ?_
      intro d2 hd2
      have hd2 := hd2.unique hd1
      subst hd2
      simp (dsimp := false) only [go_sem, ↓reduceIte, Nat.reduceEqDiff, Nat.reduceLT, Nat.reduceAdd, Nat.reduceSub, Nat.reduceMul, Nat.reduceLeDiff, reduceCtorEq, Int.reduceNeg, Int.reduceToNat, Int.reduceLT, Int.reduceLE, Int.reduceGE, Int.reduceGT, Int.reduceEq]
      intro k2 hk2
      have qk2 := none_ne hk2
      have fk2 : ∀ (own : Own) o, (own.set k2 o) k1 = own k1 := fun own o => Own.set_ne _ _ (Ne.symm qk2)
      simp (dsimp := false) only [go_sem, ↓reduceIte, Nat.reduceEqDiff, Nat.reduceLT, Nat.reduceAdd, Nat.reduceSub, Nat.reduceMul, Nat.reduceLeDiff, reduceCtorEq, Int.reduceNeg, Int.reduceToNat, Int.reduceLT, Int.reduceLE, Int.reduceGE, Int.reduceGT, Int.reduceEq, fk2]
      refine ACs.pn (repDecode_pn X (by omega)) ?_
      intro d1 hd1
      obtain ⟨u0, u1, u2, u3, u4, u5, u6, u7, ue, rfl⟩ := hd1.form
      have hsm := SameReply_refl u0 u1 u2 u3 u4 u5 u6 u7
      unfold repA at hd1 hsm ⊢
      simp (dsimp := false) only [go_sem, ↓reduceIte, Nat.reduceEqDiff, Nat.reduceLT, Nat.reduceAdd, Nat.reduceSub, Nat.reduceMul, Nat.reduceLeDiff, reduceCtorEq, Int.reduceNeg, Int.reduceToNat, Int.reduceLT, Int.reduceLE, Int.reduceGE, Int.reduceGT, Int.reduceEq]
      intro k3 hk3
      refine ACs.pn (rrepDecode_pn X (by omega)) ?_
      intro d2 hd2
      have hd2 := hd2.unique hd1
      subst hd2
      simp (dsimp := false) only [go_sem, ↓reduceIte, Nat.reduceEqDiff, Nat.reduceLT, Nat.reduceAdd, Nat.reduceSub, Nat.reduceMul, Nat.reduceLeDiff, reduceCtorEq, Int.reduceNeg, Int.reduceToNat, Int.reduceLT, Int.reduceLE, Int.reduceGE, Int.reduceGT, Int.reduceEq]
      intro k4 hk4
      have qk4 := none_ne hk4
      have fk4 : ∀ (own : Own) o, (own.set k4 o) k3 = own k3 := fun own o => Own.set_ne _ _ (Ne.symm qk4)
      simp (dsimp := false) only [go_sem, ↓reduceIte, Nat.reduceEqDiff, Nat.reduceLT, Nat.reduceAdd, Nat.reduceSub, Nat.reduceMul, Nat.reduceLeDiff, reduceCtorEq, Int.reduceNeg, Int.reduceToNat, Int.reduceLT, Int.reduceLE, Int.reduceGE, Int.reduceGT, Int.reduceEq, fk4]
      refine ACs.pure hsm ?_
      simp (dsimp := false) only [go_sem, ↓reduceIte, Nat.reduceEqDiff, Nat.reduceLT, Nat.reduceAdd, Nat.reduceSub, Nat.reduceMul, Nat.reduceLeDiff, reduceCtorEq, Int.reduceNeg, Int.reduceToNat, Int.reduceLT, Int.reduceLE, Int.reduceGE, Int.reduceGT, Int.reduceEq]
      refine ACs.pn (prtDecode_pn X other (by omega)) ?_
      intro d1 hd1
      obtain ⟨u0, u1, u2, u3, u4, u5, u6, u7, u8, ue, rfl⟩ := hd1.form
      have hsm := SamePart_refl u1 u2 u3 u4 u5 u6 u7 u8
      unfold prtA at hd1 hsm ⊢
      simp (dsimp := false) only [go_sem, ↓reduceIte, Nat.reduceEqDiff, Nat.reduceLT, Nat.reduceAdd, Nat.reduceSub, Nat.reduceMul, Nat.reduceLeDiff, reduceCtorEq, Int.reduceNeg, Int.reduceToNat, Int.reduceLT, Int.reduceLE, Int.reduceGE, Int.reduceGT, Int.reduceEq]
      intro k5 hk5
      refine ACs.pn (rprtDecode_pn X other (by omega)) ?_
      intro d2 hd2
      have hd2 := hd2.unique hd1
      subst hd2
      simp (dsimp := false) only [go_sem, ↓reduceIte, Nat.reduceEqDiff, Nat.reduceLT, Nat.reduceAdd, Nat.reduceSub, Nat.reduceMul, Nat.reduceLeDiff, reduceCtorEq, Int.reduceNeg, Int.reduceToNat, Int.reduceLT, Int.reduceLE, Int.reduceGE, Int.reduceGT, Int.reduceEq]
      intro k6 hk6
      have qk6 := none_ne hk6
      have fk6 : ∀ (own : Own) o, (own.set k6 o) k5 = own k5 := fun own o => Own.set_ne _ _ (Ne.symm qk6)
      simp (dsimp := false) only [go_sem, ↓reduceIte, Nat.reduceEqDiff, Nat.reduceLT, Nat.reduceAdd, Nat.reduceSub, Nat.reduceMul, Nat.reduceLeDiff, reduceCtorEq, Int.reduceNeg, Int.reduceToNat, Int.reduceLT, Int.reduceLE, Int.reduceGE, Int.reduceGT, Int.reduceEq, fk6]
      refine ACs.pure hsm ?_
      simp (dsimp := false) only [go_sem, ↓reduceIte, Nat.reduceEqDiff, Nat.reduceLT, Nat.reduceAdd, Nat.reduceSub, Nat.reduceMul, Nat.reduceLeDiff, reduceCtorEq, Int.reduceNeg, Int.reduceToNat, Int.reduceLT, Int.reduceLE, Int.reduceGE, Int.reduceGT, Int.reduceEq]
      refine ACs.pn (errDecode_pn X (by omega)) ?_
      intro d1 hd1
      obtain ⟨_, _, _, _, _, _, _, _, rfl⟩ := hd1.form
      unfold errA at hd1 ⊢
      simp (dsimp := false) only [go_sem, ↓reduceIte, Nat.reduceEqDiff, Nat.reduceLT, Nat.reduceAdd, Nat.reduceSub, Nat.reduceMul, Nat.reduceLeDiff, reduceCtorEq, Int.reduceNeg, Int.reduceToNat, Int.reduceLT, Int.reduceLE, Int.reduceGE, Int.reduceGT, Int.reduceEq]
      intro k7 hk7
      refine ACs.pn (rerrDecode_pn X (by omega)) ?_
      intro d2 hd2
      have hd2 := hd2.unique hd1
      subst hd2
      simp (dsimp := false) only [go_sem, ↓reduceIte, Nat.reduceEqDiff, Nat.reduceLT, Nat.reduceAdd, Nat.reduceSub, Nat.reduceMul, Nat.reduceLeDiff, reduceCtorEq, Int.reduceNeg, Int.reduceToNat, Int.reduceLT, Int.reduceLE, Int.reduceGE, Int.reduceGT, Int.reduceEq]
      intro k8 hk8
      have qk8 := none_ne hk8
      have fk8 : ∀ (own : Own) o, (own.set k8 o) k7 = own k7 := fun own o => Own.set_ne _ _ (Ne.symm qk8)
      simp (dsimp := false) only [go_sem, ↓reduceIte, Nat.reduceEqDiff, Nat.reduceLT, Nat.reduceAdd, Nat.reduceSub, Nat.reduceMul, Nat.reduceLeDiff, reduceCtorEq, Int.reduceNeg, Int.reduceToNat, Int.reduceLT, Int.reduceLE, Int.reduceGE, Int.reduceGT, Int.reduceEq, fk8, w1]
      (try simp (dsimp := false) only [go_sem, ↓reduceIte, Nat.reduceEqDiff, Nat.reduceLT, Nat.reduceAdd, Nat.reduceSub, Nat.reduceMul, Nat.reduceLeDiff, reduceCtorEq, Int.reduceNeg, Int.reduceToNat, Int.reduceLT, Int.reduceLE, Int.reduceGE, Int.reduceGT, Int.reduceEq, w1])
      refine ⟨j + 1, by omega, ?_, by omega⟩
      (refine Ghost.of ?_ (fun _ _ h => by cases h); (repeat' (first | exact all_nil | refine all_cons ?_ ?_)) <;> (first | (simp (dsimp := false) only [go_sem, ↓reduceIte, Nat.reduceEqDiff, Nat.reduceLT, Nat.reduceAdd, Nat.reduceSub, Nat.reduceMul, Nat.reduceLeDiff, reduceCtorEq, Int.reduceNeg, Int.reduceToNat, Int.reduceLT, Int.reduceLE, Int.reduceGE, Int.reduceGT, Int.reduceEq]; done) | (simp (dsimp := false) only [go_sem, ↓reduceIte, Nat.reduceEqDiff, Nat.reduceLT, Nat.reduceAdd, Nat.reduceSub, Nat.reduceMul, Nat.reduceLeDiff, reduceCtorEq, Int.reduceNeg, Int.reduceToNat, Int.reduceLT, Int.reduceLE, Int.reduceGE, Int.reduceGT, Int.reduceEq]; rfl)))
    · simp (dsimp := false) only [go_sem, ↓reduceIte, Nat.reduceEqDiff, Nat.reduceLT, Nat.reduceAdd, Nat.reduceSub, Nat.reduceMul, Nat.reduceLeDiff, reduceCtorEq, Int.reduceNeg, Int.reduceToNat, Int.reduceLT, Int.reduceLE, Int.reduceGE, Int.reduceGT, Int.reduceEq, hj2]
  · obtain ⟨d0, hA, n, i, r, tm, ex, kv, hd, hz⟩ := reply9_det bs sealed little (by omega)
    subst hd
    have hE := rrepEncode_pure little n i r tm ex kv sealed (by omega) (by omega) (by omega) (by omega)
    have hl : (if repChk little n i r tm ex kv sealed = 0 then repB little n i r tm ex kv sealed else []).length ≤ 2000 := by
      have := repB_length little n i r tm ex kv sealed
      split
      · omega
      · exact Nat.zero_le _
    unfold repA repE at hE
    obtain ⟨M, hM⟩ : ∃ M, (if repChk little n i r tm ex kv sealed = 0 then repB little n i r tm ex kv sealed else []) = M := ⟨_, rfl⟩
    rw [hM] at hE hl
    obtain ⟨E, hEE⟩ : ∃ E, repChk little n i r tm ex kv sealed = E := ⟨_, rfl⟩
    rw [hEE] at hE
    unfold repA at hA
    simp (dsimp := false) only [go_sem, ↓reduceIte, Nat.reduceEqDiff, Nat.reduceLT, Nat.reduceAdd, Nat.reduceSub, Nat.reduceMul, Nat.reduceLeDiff, reduceCtorEq, Int.reduceNeg, Int.reduceToNat, Int.reduceLT, Int.reduceLE, Int.reduceGE, Int.reduceGT, Int.reduceEq, h1, h2, h3, h4]
    refine ACs.pure hA ?_
    simp (dsimp := false) only [go_sem, ↓reduceIte, Nat.reduceEqDiff, Nat.reduceLT, Nat.reduceAdd, Nat.reduceSub, Nat.reduceMul, Nat.reduceLeDiff, reduceCtorEq, Int.reduceNeg, Int.reduceToNat, Int.reduceLT, Int.reduceLE, Int.reduceGE, Int.reduceGT, Int.reduceEq]
    refine ACs.pure hE ?_
    simp (dsimp := false) only [go_sem, ↓reduceIte, Nat.reduceEqDiff, Nat.reduceLT, Nat.reduceAdd, Nat.reduceSub, Nat.reduceMul, Nat.reduceLeDiff, reduceCtorEq, Int.reduceNeg, Int.reduceToNat, Int.reduceLT, Int.reduceLE, Int.reduceGE, Int.reduceGT, Int.reduceEq]
    refine AW.loopJ (M := []) (X := Nat) (fun j => ⟨172, tmL [(0, .lst 1 (raw.map byteA)), (4, .raw (.bool other)), (6, .raw (.int .u16 how)), (15, .lst 1 (M.map byteA)), (16, .raw (.int .i64 j))], noOwn⟩)
      (fun j => j ≤ 3) (fun j => 3 - j) 0 (by decide) ?_ ?_
    · (refine Ghost.of ?_ (fun _ _ h => by cases h); (repeat' (first | exact all_nil | refine all_cons ?_ ?_)) <;> (first | (simp (dsimp := false) only [go_sem, ↓reduceIte, Nat.reduceEqDiff, Nat.reduceLT, Nat.reduceAdd, Nat.reduceSub, Nat.reduceMul, Nat.reduceLeDiff, reduceCtorEq, Int.reduceNeg, Int.reduceToNat, Int.reduceLT, Int.reduceLE, Int.reduceGE, Int.reduceGT, Int.reduceEq]; done) | (simp (dsimp := false) only [go_sem, ↓reduceIte, Nat.reduceEqDiff, Nat.reduceLT, Nat.reduceAdd, Nat.reduceSub, Nat.reduceMul, Nat.reduceLeDiff, reduceCtorEq, Int.reduceNeg, Int.reduceToNat, Int.reduceLT, Int.reduceLE, Int.reduceGE, Int.reduceGT, Int.reduceEq]; rfl)))
    intro j hj
    by_cases hj2 : (j : Int) < 3
    · have w1 : IntKind.i64.wrap ((j : Int) + 1) = ((j + 1 : Nat) : Int) := by rw [wrap_i64 (by omega) (by omega)]; omega
      simp (dsimp := false) only [go_sem, ↓reduceIte, Nat.reduceEqDiff, Nat.reduceLT, Nat.reduceAdd, Nat.reduceSub, Nat.reduceMul, Nat.reduceLeDiff, reduceCtorEq, Int.reduceNeg, Int.reduceToNat, Int.reduceLT, Int.reduceLE, Int.reduceGE, Int.reduceGT, Int.reduceEq, hj2]
      refine ACs.pn (Spoil_pn M how (by omega) hh.1 hh.2) ?_
      rintro _ ⟨sp, rfl, hspl⟩
      obtain ⟨X, hX, hXl⟩ : ∃ X : List UInt8, [AV.lst 1 (raw.map byteA), AV.lst 1 (M.map byteA), AV.lst 1 (sp.map byteA)].getD j .any = AV.lst 1 (X.map byteA) ∧ X.length ≤ 3000 := by
        match j, (show j < 3 by omega) with
        | 0, _ => exact ⟨_, rfl, by omega⟩
        | 1, _ => exact ⟨_, rfl, by omega⟩
        | 2, _ => exact ⟨_, rfl, by omega⟩
      simp (dsimp := false) only [go_sem, ↓reduceIte, Nat.reduceEqDiff, Nat.reduceLT, Nat.reduceAdd, Nat.reduceSub, Nat.reduceMul, Nat.reduceLeDiff, reduceCtorEq, Int.reduceNeg, Int.reduceToNat, Int.reduceLT, Int.reduceLE, Int.reduceGE, Int.reduceGT, Int.reduceEq, hX]
      (try refine ⟨by omega, ?_⟩)
      refine ACs.pn (reqDecode_pn X (by omega)) ?_
      intro d1 hd1
      obtain ⟨_, _, _, _, _, _, _, _, _, rfl⟩ := hd1.form
      unfold reqA at hd1 ⊢
      simp (dsimp := false) only [go_sem, ↓reduceIte, Nat.reduceEqDiff, Nat.reduceLT, Nat.reduceAdd, Nat.reduceSub, Nat.reduceMul, Nat.reduceLeDiff, reduceCtorEq, Int.reduceNeg, Int.reduceToNat, Int.reduceLT, Int.reduceLE, Int.reduceGE, Int.reduceGT, Int.reduceEq]
      intro k1 hk1
      refine ACs.pn (rreqDecode_pn X (by omega)) ?_
      intro d2 hd2
      have hd2 := hd2.unique hd1
      subst hd2
      simp (dsimp := false) only [go_sem, ↓reduceIte, Nat.reduceEqDiff, Nat.reduceLT, Nat.reduceAdd, Nat.reduceSub, Nat.reduceMul, Nat.reduceLeDiff, reduceCtorEq, Int.reduceNeg, Int.reduceToNat, Int.reduceLT, Int.reduceLE, Int.reduceGE, Int.reduceGT, Int.reduceEq]
      intro k2 hk2
      have qk2 := none_ne hk2
      have fk2 : ∀ (own : Own) o, (own.set k2 o) k1 = own k1 := fun own o => Own.set_ne _ _ (Ne.symm qk2)
      simp (dsimp := false) only [go_sem, ↓reduceIte, Nat.reduceEqDiff, Nat.reduceLT, Nat.reduceAdd, Nat.reduceSub, Nat.reduceMul, Nat.reduceLeDiff, reduceCtorEq, Int.reduceNeg, Int.reduceToNat, Int.reduceLT, Int.reduceLE, Int.reduceGE, Int.reduceGT, Int.reduceEq, fk2]
      refine ACs.pn (repDecode_pn X (by omega)) ?_
      intro d1 hd1
      obtain ⟨u0, u1, u2, u3, u4, u5, u6, u7, ue, rfl⟩ := hd1.form
      have hsm := SameReply_refl u0 u1 u2 u3 u4 u5 u6 u7
      unfold repA at hd1 hsm ⊢
      simp (dsimp := false) only [go_sem, ↓reduceIte, Nat.reduceEqDiff, Nat.reduceLT, Nat.reduceAdd, Nat.reduceSub, Nat.reduceMul, Nat.reduceLeDiff, reduceCtorEq, Int.reduceNeg, Int.reduceToNat, Int.reduceLT, Int.reduceLE, Int.reduceGE, Int.reduceGT, Int.reduceEq]
      intro k3 hk3
      refine ACs.pn (rrepDecode_pn X (by omega)) ?_
      intro d2 hd2
      have hd2 := hd2.unique hd1
      subst hd2
      simp (dsimp := false) only [go_sem, ↓reduceIte, Nat.reduceEqDiff, Nat.reduceLT, Nat.reduceAdd, Nat.reduceSub, Nat.reduceMul, Nat.reduceLeDiff, reduceCtorEq, Int.reduceNeg, Int.reduceToNat, Int.reduceLT, Int.reduceLE, Int.reduceGE, Int.reduceGT, Int.reduceEq]
      intro k4 hk4
      have qk4 := none_ne hk4
      have fk4 : ∀ (own : Own) o, (own.set k4 o) k3 = own k3 := fun own o => Own.set_ne _ _ (Ne.symm qk4)
      simp (dsimp := false) only [go_sem, ↓reduceIte, Nat.reduceEqDiff, Nat.reduceLT, Nat.reduceAdd, Nat.reduceSub, Nat.reduceMul, Nat.reduceLeDiff, reduceCtorEq, Int.reduceNeg, Int.reduceToNat, Int.reduceLT, Int.reduceLE, Int.reduceGE, Int.reduceGT, Int.reduceEq, fk4]
      refine ACs.pure hsm ?_
      simp (dsimp := false) only [go_sem, ↓reduceIte, Nat.reduceEqDiff, Nat.reduceLT, Nat.reduceAdd, Nat.reduceSub, Nat.reduceMul, Nat.reduceLeDiff, reduceCtorEq, Int.reduceNeg, Int.reduceToNat, Int.reduceLT, Int.reduceLE, Int.reduceGE, Int.reduceGT, Int.reduceEq]
      refine ACs.pn (prtDecode_pn X other (by omega)) ?_
      intro d1 hd1
      obtain ⟨u0, u1, u2, u3, u4, u5, u6, u7, u8, ue, rfl⟩ := hd1.form
      have hsm := SamePart_refl u1 u2 u3 u4 u5 u6 u7 u8
      unfold prtA at hd1 hsm ⊢
      simp (dsimp := false) only [go_sem, ↓reduceIte, Nat.reduceEqDiff, Nat.reduceLT, Nat.reduceAdd, Nat.reduceSub, Nat.reduceMul, Nat.reduceLeDiff, reduceCtorEq, Int.reduceNeg, Int.reduceToNat, Int.reduceLT, Int.reduceLE, Int.reduceGE, Int.reduceGT, Int.reduceEq]
      intro k5 hk5
      refine ACs.pn (rprtDecode_pn X other (by omega)) ?_
      intro d2 hd2
      have hd2 := hd2.unique hd1
      subst hd2
      simp (dsimp := false) only [go_sem, ↓reduceIte, Nat.reduceEqDiff, Nat.reduceLT, Nat.reduceAdd, Nat.reduceSub, Nat.reduceMul, Nat.reduceLeDiff, reduceCtorEq, Int.reduceNeg, Int.reduceToNat, Int.reduceLT, Int.reduceLE, Int.reduceGE, Int.reduceGT, Int.reduceEq]
      intro k6 hk6
      have qk6 := none_ne hk6
      have fk6 : ∀ (own : Own) o, (own.set k6 o) k5 = own k5 := fun own o => Own.set_ne _ _ (Ne.symm qk6)
      simp (dsimp := false) only [go_sem, ↓reduceIte, Nat.reduceEqDiff, Nat.reduceLT, Nat.reduceAdd, Nat.reduceSub, Nat.reduceMul, Nat.reduceLeDiff, reduceCtorEq, Int.reduceNeg, Int.reduceToNat, Int.reduceLT, Int.reduceLE, Int.reduceGE, Int.reduceGT, Int.reduceEq, fk6]
      refine ACs.pure hsm ?_
      simp (dsimp := false) only [go_sem, ↓reduceIte, Nat.reduceEqDiff, Nat.reduceLT, Nat.reduceAdd, Nat.reduceSub, Nat.reduceMul, Nat.reduceLeDiff, reduceCtorEq, Int.reduceNeg, Int.reduceToNat, Int.reduceLT, Int.reduceLE, Int.reduceGE, Int.reduceGT, Int.reduceEq]
      refine ACs.pn (errDecode_pn X (by omega)) ?_
      intro d1 hd1
      obtain ⟨_, _, _, _, _, _, _, _, rfl⟩ := hd1.form
      unfold errA at hd1 ⊢
      simp (dsimp := false) only [go_sem, ↓reduceIte, Nat.reduceEqDiff, Nat.reduceLT, Nat.reduceAdd, Nat.reduceSub, Nat.reduceMul, Nat.reduceLeDiff, reduceCtorEq, Int.reduceNeg, Int.reduceToNat, Int.reduceLT, Int.reduceLE, Int.reduceGE, Int.reduceGT, Int.reduceEq]
      intro k7 hk7
      refine ACs.pn (rerrDecode_pn X (by omega)) ?_
      intro d2 hd2
      have hd2 := hd2.unique hd1
      subst hd2
      simp (dsimp := false) only [go_sem, ↓reduceIte, Nat.reduceEqDiff, Nat.reduceLT, Nat.reduceAdd, Nat.reduceSub, Nat.reduceMul, Nat.reduceLeDiff, reduceCtorEq, Int.reduceNeg, Int.reduceToNat, Int.reduceLT, Int.reduceLE, Int.reduceGE, Int.reduceGT, Int.reduceEq]
      intro k8 hk8
      have qk8 := none_ne hk8
      have fk8 : ∀ (own : Own) o, (own.set k8 o) k7 = own k7 := fun own o => Own.set_ne _ _ (Ne.symm qk8)
      simp (dsimp := false) only [go_sem, ↓reduceIte, Nat.reduceEqDiff, Nat.reduceLT, Nat.reduceAdd, Nat.reduceSub, Nat.reduceMul, Nat.reduceLeDiff, reduceCtorEq, Int.reduceNeg, Int.reduceToNat, Int.reduceLT, Int.reduceLE, Int.reduceGE, Int.reduceGT, Int.reduceEq, fk8, w1]
      (try simp (dsimp := false) only [go_sem, ↓reduceIte, Nat.reduceEqDiff, Nat.reduceLT, Nat.reduceAdd, Nat.reduceSub, Nat.reduceMul, Nat.reduceLeDiff, reduceCtorEq, Int.reduceNeg, Int.reduceToNat, Int.reduceLT, Int.reduceLE, Int.reduceGE, Int.reduceGT, Int.reduceEq, w1])
      refine ⟨j + 1, by omega, ?_, by omega⟩
      (refine Ghost.of ?_ (fun _ _ h => by cases h); (repeat' (first | exact all_nil | refine all_cons ?_ ?_)) <;> (first | (simp (dsimp := false) only [go_sem, ↓reduceIte, Nat.reduceEqDiff, Nat.reduceLT, Nat.reduceAdd, Nat.reduceSub, Nat.reduceMul, Nat.reduceLeDiff, reduceCtorEq, Int.reduceNeg, Int.reduceToNat, Int.reduceLT, Int.reduceLE, Int.reduceGE, Int.reduceGT, Int.reduceEq]; done) | (simp (dsimp := false) only [go_sem, ↓reduceIte, Nat.reduceEqDiff, Nat.reduceLT, Nat.reduceAdd, Nat.reduceSub, Nat.reduceMul, Nat.reduceLeDiff, reduceCtorEq, Int.reduceNeg, Int.reduceToNat, Int.reduceLT, Int.reduceLE, Int.reduceGE, Int.reduceGT, Int.reduceEq]; rfl)))
    · simp (dsimp := false) only [go_sem, ↓reduceIte, Nat.reduceEqDiff, Nat.reduceLT, Nat.reduceAdd, Nat.reduceSub, Nat.reduceMul, Nat.reduceLeDiff, reduceCtorEq, Int.reduceNeg, Int.reduceToNat, Int.reduceLT, Int.reduceLE, Int.reduceGE, Int.reduceGT, Int.reduceEq, hj2]
  · obtain ⟨d0, hA, k, n, i, r, li, kv, x, tm, hd, hk, hz⟩ := part9_det bs sealed (by omega)
    subst hd
    have hE := rprtEncode_pure little k n i r li kv x tm (by omega) (by omega) (by omega) (by omega) (by omega) (by omega)
    have hl : (if prtChk little k n i r li kv x tm = 0 then prtB little k n i r li kv x tm else []).length ≤ 2000 := by
      have := prtB_length little k n i r li kv x tm
      split
      · omega
      · exact Nat.zero_le _
    unfold prtA prtE at hE
    obtain ⟨M, hM⟩ : ∃ M, (if prtChk little k n i r li kv x tm = 0 then prtB little k n i r li kv x tm else []) = M := ⟨_, rfl⟩
    rw [hM] at hE hl
    obtain ⟨E, hEE⟩ : ∃ E, prtChk little k n i r li kv x tm = E := ⟨_, rfl⟩
    rw [hEE] at hE
    unfold prtA at hA
    simp (dsimp := false) only [go_sem, ↓reduceIte, Nat.reduceEqDiff, Nat.reduceLT, Nat.reduceAdd, Nat.reduceSub, Nat.reduceMul, Nat.reduceLeDiff, reduceCtorEq, Int.reduceNeg, Int.reduceToNat, Int.reduceLT, Int.reduceLE, Int.reduceGE, Int.reduceGT, Int.reduceEq, h1, h2, h3, h4]
    refine ACs.pure hA ?_
    simp (dsimp := false) only [go_sem, ↓reduceIte, Nat.reduceEqDiff, Nat.reduceLT, Nat.reduceAdd, Nat.reduceSub, Nat.reduceMul, Nat.reduceLeDiff, reduceCtorEq, Int.reduceNeg, Int.reduceToNat, Int.reduceLT, Int.reduceLE, Int.reduceGE, Int.reduceGT, Int.reduceEq]
    refine ACs.pure hE ?_
    simp (dsimp := false) only [go_sem, ↓reduceIte, Nat.reduceEqDiff, Nat.reduceLT, Nat.reduceAdd, Nat.reduceSub, Nat.reduceMul, Nat.reduceLeDiff, reduceCtorEq, Int.reduceNeg, Int.reduceToNat, Int.reduceLT, Int.reduceLE, Int.reduceGE, Int.reduceGT, Int.reduceEq]
    refine AW.loopJ (M := []) (X := Nat) (fun j => ⟨172, tmL [(0, .lst 1 (raw.map byteA)), (4, .raw (.bool other)), (6, .raw (.int .u16 how)), (15, .lst 1 (M.map byteA)), (16, .raw (.int .i64 j))], noOwn⟩)
      (fun j => j ≤ 3) (fun j => 3 - j) 0 (by decide) ?_ ?_
    · (refine Ghost.of ?_ (fun _ _ h => by cases h); (repeat' (first | exact all_nil | refine all_cons ?_ ?_)) <;> (first | (simp (dsimp := false) only [go_sem, ↓reduceIte, Nat.reduceEqDiff, Nat.reduceLT, Nat.reduceAdd, Nat.reduceSub, Nat.reduceMul, Nat.reduceLeDiff, reduceCtorEq, Int.reduceNeg, Int.reduceToNat, Int.reduceLT, Int.reduceLE, Int.reduceGE, Int.reduceGT, Int.reduceEq]; done) | (simp (dsimp := false) only [go_sem, ↓reduceIte, Nat.reduceEqDiff, Nat.reduceLT, Nat.reduceAdd, Nat.reduceSub, Nat.reduceMul, Nat.reduceLeDiff, reduceCtorEq, Int.reduceNeg, Int.reduceToNat, Int.reduceLT, Int.reduceLE, Int.reduceGE, Int.reduceGT, Int.reduceEq]; rfl)))
    intro j hj
    by_cases hj2 : (j : Int) < 3
    · have w1 : IntKind.i64.wrap ((j : Int) + 1) = ((j + 1 : Nat) : Int) := by rw [wrap_i64 (by omega) (by omega)]; omega
      simp (dsimp := false) only [go_sem, ↓reduceIte, Nat.reduceEqDiff, Nat.reduceLT, Nat.reduceAdd, Nat.reduceSub, Nat.reduceMul, Nat.reduceLeDiff, reduceCtorEq, Int.reduceNeg, Int.reduceToNat, Int.reduceLT, Int.reduceLE, Int.reduceGE, Int.reduceGT, Int.reduceEq, hj2]
      refine ACs.pn (Spoil_pn M how (by omega) hh.1 hh.2) ?_
      rintro _ ⟨sp, rfl, hspl⟩
      obtain ⟨X, hX, hXl⟩ : ∃ X : List UInt8, [AV.lst 1 (raw.map byteA), AV.lst 1 (M.map byteA), AV.lst 1 (sp.map byteA)].getD j .any = AV.lst 1 (X.map byteA) ∧ X.length ≤ 3000 := by
        match j, (show j < 3 by omega) with
        | 0, _ => exact ⟨_, rfl, by omega⟩
        | 1, _ => exact ⟨_, rfl, by omega⟩
        | 2, _ => exact ⟨_, rfl, by omega⟩
      simp (dsimp := false) only [go_sem, ↓reduceIte, Nat.reduceEqDiff, Nat.reduceLT, Nat.reduceAdd, Nat.reduceSub, Nat.reduceMul, Nat.reduceLeDiff, reduceCtorEq, Int.reduceNeg, Int.reduceToNat, Int.reduceLT, Int.reduceLE, Int.reduceGE, Int.reduceGT, Int.reduceEq, hX]
      (try refine ⟨by omega, ?_⟩)
      refine ACs.pn (reqDecode_pn X (by omega)) ?_
      intro d1 hd1
      obtain ⟨_, _, _, _, _, _, _, _, _, rfl⟩ := hd1.form
      unfold reqA at hd1 ⊢
      simp (dsimp := false) only [go_sem, ↓reduceIte, Nat.reduceEqDiff, Nat.reduceLT, Nat.reduceAdd, Nat.reduceSub, Nat.reduceMul, Nat.reduceLeDiff, reduceCtorEq, Int.reduceNeg, Int.reduceToNat, Int.reduceLT, Int.reduceLE, Int.reduceGE, Int.reduceGT, Int.reduceEq]
      intro k1 hk1
      refine ACs.pn (rreqDecode_pn X (by omega)) ?_
      intro d2 hd2
      have hd2 := hd2.unique hd1
      subst hd2
      simp (dsimp := false) only [go_sem, ↓reduceIte, Nat.reduceEqDiff, Nat.reduceLT, Nat.reduceAdd, Nat.reduceSub, Nat.reduceMul, Nat.reduceLeDiff, reduceCtorEq, Int.reduceNeg, Int.reduceToNat, Int.reduceLT, Int.reduceLE, Int.reduceGE, Int.reduceGT, Int.reduceEq]
      intro k2 hk2
      have qk2 := none_ne hk2
      have fk2 : ∀ (own : Own) o, (own.set k2 o) k1 = own k1 := fun own o => Own.set_ne _ _ (Ne.symm qk2)
      simp (dsimp := false) only [go_sem, ↓reduceIte, Nat.reduceEqDiff, Nat.reduceLT, Nat.reduceAdd, Nat.reduceSub, Nat.reduceMul, Nat.reduceLeDiff, reduceCtorEq, Int.reduceNeg, Int.reduceToNat, Int.reduceLT, Int.reduceLE, Int.reduceGE, Int.reduceGT, Int.reduceEq, fk2]
      refine ACs.pn (repDecode_pn X (by omega)) ?_
      intro d1 hd1
      obtain ⟨u0, u1, u2, u3, u4, u5, u6, u7, ue, rfl⟩ := hd1.form
      have hsm := SameReply_refl u0 u1 u2 u3 u4 u5 u6 u7
      unfold repA at hd1 hsm ⊢
      simp (dsimp := false) only [go_sem, ↓reduceIte, Nat.reduceEqDiff, Nat.reduceLT, Nat.reduceAdd, Nat.reduceSub, Nat.reduceMul, Nat.reduceLeDiff, reduceCtorEq, Int.reduceNeg, Int.reduceToNat, Int.reduceLT, Int.reduceLE, Int.reduceGE, Int.reduceGT, Int.reduceEq]
      intro k3 hk3
      refine ACs.pn (rrepDecode_pn X (by omega)) ?_
      intro d2 hd2
      have hd2 := hd2.unique hd1
      subst hd2
      simp (dsimp := false) only [go_sem, ↓reduceIte, Nat.reduceEqDiff, Nat.reduceLT, Nat.reduceAdd, Nat.reduceSub, Nat.reduceMul, Nat.reduceLeDiff, reduceCtorEq, Int.reduceNeg, Int.reduceToNat, Int.reduceLT, Int.reduceLE, Int.reduceGE, Int.reduceGT, Int.reduceEq]
      intro k4 hk4
      have qk4 := none_ne hk4
      have fk4 : ∀ (own : Own) o, (own.set k4 o) k3 = own k3 := fun own o => Own.set_ne _ _ (Ne.symm qk4)
      simp (dsimp := false) only [go_sem, ↓reduceIte, Nat.reduceEqDiff, Nat.reduceLT, Nat.reduceAdd, Nat.reduceSub, Nat.reduceMul, Nat.reduceLeDiff, reduceCtorEq, Int.reduceNeg, Int.reduceToNat, Int.reduceLT, Int.reduceLE, Int.reduceGE, Int.reduceGT, Int.reduceEq, fk4]
      refine ACs.pure hsm ?_
      simp (dsimp := false) only [go_sem, ↓reduceIte, Nat.reduceEqDiff, Nat.reduceLT, Nat.reduceAdd, Nat.reduceSub, Nat.reduceMul, Nat.reduceLeDiff, reduceCtorEq, Int.reduceNeg, Int.reduceToNat, Int.reduceLT, Int.reduceLE, Int.reduceGE, Int.reduceGT, Int.reduceEq]
      refine ACs.pn (prtDecode_pn X other (by omega)) ?_
      intro d1 hd1
      obtain ⟨u0, u1, u2, u3, u4, u5, u6, u7, u8, ue, rfl⟩ := hd1.form
      have hsm := SamePart_refl u1 u2 u3 u4 u5 u6 u7 u8
      unfold prtA at hd1 hsm ⊢
      simp (dsimp := false) only [go_sem, ↓reduceIte, Nat.reduceEqDiff, Nat.reduceLT, Nat.reduceAdd, Nat.reduceSub, Nat.reduceMul, Nat.reduceLeDiff, reduceCtorEq, Int.reduceNeg, Int.reduceToNat, Int.reduceLT, Int.reduceLE, Int.reduceGE, Int.reduceGT, Int.reduceEq]
      intro k5 hk5
      refine ACs.pn (rprtDecode_pn X other (by omega)) ?_
      intro d2 hd2
      have hd2 := hd2.unique hd1
      subst hd2
      simp (dsimp := false) only [go_sem, ↓reduceIte, Nat.reduceEqDiff, Nat.reduceLT, Nat.reduceAdd, Nat.reduceSub, Nat.reduceMul, Nat.reduceLeDiff, reduceCtorEq, Int.reduceNeg, Int.reduceToNat, Int.reduceLT, Int.reduceLE, Int.reduceGE, Int.reduceGT, Int.reduceEq]
      intro k6 hk6
      have qk6 := none_ne hk6
      have fk6 : ∀ (own : Own) o, (own.set k6 o) k5 = own k5 := fun own o => Own.set_ne _ _ (Ne.symm qk6)
      simp (dsimp := false) only [go_sem, ↓reduceIte, Nat.reduceEqDiff, Nat.reduceLT, Nat.reduceAdd, Nat.reduceSub, Nat.reduceMul, Nat.reduceLeDiff, reduceCtorEq, Int.reduceNeg, Int.reduceToNat, Int.reduceLT, Int.reduceLE, Int.reduceGE, Int.reduceGT, Int.reduceEq, fk6]
      refine ACs.pure hsm ?_
      simp (dsimp := false) only [go_sem, ↓reduceIte, Nat.reduceEqDiff, Nat.reduceLT, Nat.reduceAdd, Nat.reduceSub, Nat.reduceMul, Nat.reduceLeDiff, reduceCtorEq, Int.reduceNeg, Int.reduceToNat, Int.reduceLT, Int.reduceLE, Int.reduceGE, Int.reduceGT, Int.reduceEq]
      refine ACs.pn (errDecode_pn X (by omega)) ?_
      intro d1 hd1
      obtain ⟨_, _, _, _, _, _, _, _, rfl⟩ := hd1.form
      unfold errA at hd1 ⊢
      simp (dsimp := false) only [go_sem, ↓reduceIte, Nat.reduceEqDiff, Nat.reduceLT, Nat.reduceAdd, Nat.reduceSub, Nat.reduceMul, Nat.reduceLeDiff, reduceCtorEq, Int.reduceNeg, Int.reduceToNat, Int.reduceLT, Int.reduceLE, Int.reduceGE, Int.reduceGT, Int.reduceEq]
      intro k7 hk7
      refine ACs.pn (rerrDecode_pn X (by omega)) ?_
      intro d2 hd2
      have hd2 := hd2.unique hd1
      subst hd2
      simp (dsimp := false) only [go_sem, ↓reduceIte, Nat.reduceEqDiff, Nat.reduceLT, Nat.reduceAdd, Nat.reduceSub, Nat.reduceMul, Nat.reduceLeDiff, reduceCtorEq, Int.reduceNeg, Int.reduceToNat, Int.reduceLT, Int.reduceLE, Int.reduceGE, Int.reduceGT, Int.reduceEq]
      intro k8 hk8
      have qk8 := none_ne hk8
      have fk8 : ∀ (own : Own) o, (own.set k8 o) k7 = own k7 := fun own o => Own.set_ne _ _ (Ne.symm qk8)
      simp (dsimp := false) only [go_sem, ↓reduceIte, Nat.reduceEqDiff, Nat.reduceLT, Nat.reduceAdd, Nat.reduceSub, Nat.reduceMul, Nat.reduceLeDiff, reduceCtorEq, Int.reduceNeg, Int.reduceToNat, Int.reduceLT, Int.reduceLE, Int.reduceGE, Int.reduceGT, Int.reduceEq, fk8, w1]
      (try simp (dsimp := false) only [go_sem, ↓reduceIte, Nat.reduceEqDiff, Nat.reduceLT, Nat.reduceAdd, Nat.reduceSub, Nat.reduceMul, Nat.reduceLeDiff, reduceCtorEq, Int.reduceNeg, Int.reduceToNat, Int.reduceLT, Int.reduceLE, Int.reduceGE, Int.reduceGT, Int.reduceEq, w1])
      refine ⟨j + 1, by omega, ?_, by omega⟩
      (refine Ghost.of ?_ (fun _ _ h => by cases h); (repeat' (first | exact all_nil | refine all_cons ?_ ?_)) <;> (first | (simp (dsimp := false) only [go_sem, ↓reduceIte, Nat.reduceEqDiff, Nat.reduceLT, Nat.reduceAdd, Nat.reduceSub, Nat.reduceMul, Nat.reduceLeDiff, reduceCtorEq, Int.reduceNeg, Int.reduceToNat, Int.reduceLT, Int.reduceLE, Int.reduceGE, Int.reduceGT, Int.reduceEq]; done) | (simp (dsimp := false) only [go_sem, ↓reduceIte, Nat.reduceEqDiff, Nat.reduceLT, Nat.reduceAdd, Nat.reduceSub, Nat.reduceMul, Nat.reduceLeDiff, reduceCtorEq, Int.reduceNeg, Int.reduceToNat, Int.reduceLT, Int.reduceLE, Int.reduceGE, Int.reduceGT, Int.reduceEq]; rfl)))
    · simp (dsimp := false) only [go_sem, ↓reduceIte, Nat.reduceEqDiff, Nat.reduceLT, Nat.reduceAdd, Nat.reduceSub, Nat.reduceMul, Nat.reduceLeDiff, reduceCtorEq, Int.reduceNeg, Int.reduceToNat, Int.reduceLT, Int.reduceLE, Int.reduceGE, Int.reduceGT, Int.reduceEq, hj2]
  · have hU := User_pure kind hk.1 (by omega)
    have hv := validB_size (userP_val kind)
    unfold prinA at hU
    have hE := rerrEncode_pure little (userP kind).1 (userP kind).2.1 (userP kind).2.2 5 8 ⟨#[110, 111]⟩ (by omega) (by omega) (by omega) (by decide)
    have hl : (if errChk little (userP kind).1 (userP kind).2.1 (userP kind).2.2 5 8 ⟨#[110, 111]⟩ = 0 then errB little (userP kind).1 (userP kind).2.1 (userP kind).2.2 5 8 ⟨#[110, 111]⟩ else []).length ≤ 2000 := by
      have := errB_length little (userP kind).1 (userP kind).2.1 (userP kind).2.2 5 8 ⟨#[110, 111]⟩
      have h2 : (⟨#[110, 111]⟩ : ByteArray).size = 2 := rfl
      split
      · omega
      · exact Nat.zero_le _
    unfold errA errE at hE
    obtain ⟨M, hM⟩ : ∃ M, (if errChk little (userP kind).1 (userP kind).2.1 (userP kind).2.2 5 8 ⟨#[110, 111]⟩ = 0 then errB little (userP kind).1 (userP kind).2.1 (userP kind).2.2 5 8 ⟨#[110, 111]⟩ else []) = M := ⟨_, rfl⟩
    rw [hM] at hE hl
    obtain ⟨E, hEE⟩ : ∃ E, errChk little (userP kind).1 (userP kind).2.1 (userP kind).2.2 5 8 ⟨#[110, 111]⟩ = E := ⟨_, rfl⟩
    rw [hEE] at hE
    simp (dsimp := false) only [go_sem, ↓reduceIte, Nat.reduceEqDiff, Nat.reduceLT, Nat.reduceAdd, Nat.reduceSub, Nat.reduceMul, Nat.reduceLeDiff, reduceCtorEq, Int.reduceNeg, Int.reduceToNat, Int.reduceLT, Int.reduceLE, Int.reduceGE, Int.reduceGT, Int.reduceEq, h1, h2, h3, h4, wk]
    refine ACs.pure hU ?_
    simp (dsimp := false) only [go_sem, ↓reduceIte, Nat.reduceEqDiff, Nat.reduceLT, Nat.reduceAdd, Nat.reduceSub, Nat.reduceMul, Nat.reduceLeDiff, reduceCtorEq, Int.reduceNeg, Int.reduceToNat, Int.reduceLT, Int.reduceLE, Int.reduceGE, Int.reduceGT, Int.reduceEq]
    refine ACs.pure hE ?_
    simp (dsimp := false) only [go_sem, ↓reduceIte, Nat.reduceEqDiff, Nat.reduceLT, Nat.reduceAdd, Nat.reduceSub, Nat.reduceMul, Nat.reduceLeDiff, reduceCtorEq, Int.reduceNeg, Int.reduceToNat, Int.reduceLT, Int.reduceLE, Int.reduceGE, Int.reduceGT, Int.reduceEq]
    refine AW.loopJ (M := []) (X := Nat) (fun j => ⟨172, tmL [(0, .lst 1 (raw.map byteA)), (4, .raw (.bool other)), (6, .raw (.int .u16 how)), (15, .lst 1 (M.map byteA)), (16, .raw (.int .i64 j))], noOwn⟩)
      (fun j => j ≤ 3) (fun j => 3 - j) 0 (by decide) ?_ ?_
    · (refine Ghost.of ?_ (fun _ _ h => by cases h); (repeat' (first | exact all_nil | refine all_cons ?_ ?_)) <;> (first | (simp (dsimp := false) only [go_sem, ↓reduceIte, Nat.reduceEqDiff, Nat.reduceLT, Nat.reduceAdd, Nat.reduceSub, Nat.reduceMul, Nat.reduceLeDiff, reduceCtorEq, Int.reduceNeg, Int.reduceToNat, Int.reduceLT, Int.reduceLE, Int.reduceGE, Int.reduceGT, Int.reduceEq]; done) | (simp (dsimp := false) only [go_sem, ↓reduceIte, Nat.reduceEqDiff, Nat.reduceLT, Nat.reduceAdd, Nat.reduceSub, Nat.reduceMul, Nat.reduceLeDiff, reduceCtorEq, Int.reduceNeg, Int.reduceToNat, Int.reduceLT, Int.reduceLE, Int.reduceGE, Int.reduceGT, Int.reduceEq]; rfl)))
    intro j hj
    by_cases hj2 : (j : Int) < 3
    · have w1 : IntKind.i64.wrap ((j : Int) + 1) = ((j + 1 : Nat) : Int) := by rw [wrap_i64 (by omega) (by omega)]; omega
      simp (dsimp := false) only [go_sem, ↓reduceIte, Nat.reduceEqDiff, Nat.reduceLT, Nat.reduceAdd, Nat.reduceSub, Nat.reduceMul, Nat.reduceLeDiff, reduceCtorEq, Int.reduceNeg, Int.reduceToNat, Int.reduceLT, Int.reduceLE, Int.reduceGE, Int.reduceGT, Int.reduceEq, hj2]
      refine ACs.pn (Spoil_pn M how (by omega) hh.1 hh.2) ?_
      rintro _ ⟨sp, rfl, hspl⟩
      obtain ⟨X, hX, hXl⟩ : ∃ X : List UInt8, [AV.lst 1 (raw.map byteA), AV.lst 1 (M.map byteA), AV.lst 1 (sp.map byteA)].getD j .any = AV.lst 1 (X.map byteA) ∧ X.length ≤ 3000 := by
        match j, (show j < 3 by omega) with
        | 0, _ => exact ⟨_, rfl, by omega⟩
        | 1, _ => exact ⟨_, rfl, by omega⟩
        | 2, _ => exact ⟨_, rfl, by omega⟩
      simp (dsimp := false) only [go_sem, ↓reduceIte, Nat.reduceEqDiff, Nat.reduceLT, Nat.reduceAdd, Nat.reduceSub, Nat.reduceMul, Nat.reduceLeDiff, reduceCtorEq, Int.reduceNeg, Int.reduceToNat, Int.reduceLT, Int.reduceLE, Int.reduceGE, Int.reduceGT, Int.reduceEq, hX]
      (try refine ⟨by omega, ?_⟩)
      refine ACs.pn (reqDecode_pn X (by omega)) ?_
      intro d1 hd1
      obtain ⟨_, _, _, _, _, _, _, _, _, rfl⟩ := hd1.form
      unfold reqA at hd1 ⊢
      simp (dsimp := false) only [go_sem, ↓reduceIte, Nat.reduceEqDiff, Nat.reduceLT, Nat.reduceAdd, Nat.reduceSub, Nat.reduceMul, Nat.reduceLeDiff, reduceCtorEq, Int.reduceNeg, Int.reduceToNat, Int.reduceLT, Int.reduceLE, Int.reduceGE, Int.reduceGT, Int.reduceEq]
      intro k1 hk1
      refine ACs.pn (rreqDecode_pn X (by omega)) ?_
      intro d2 hd2
      have hd2 := hd2.unique hd1
      subst hd2
      simp (dsimp := false) only [go_sem, ↓reduceIte, Nat.reduceEqDiff, Nat.reduceLT, Nat.reduceAdd, Nat.reduceSub, Nat.reduceMul, Nat.reduceLeDiff, reduceCtorEq, Int.reduceNeg, Int.reduceToNat, Int.reduceLT, Int.reduceLE, Int.reduceGE, Int.reduceGT, Int.reduceEq]
      intro k2 hk2
      have qk2 := none_ne hk2
      have fk2 : ∀ (own : Own) o, (own.set k2 o) k1 = own k1 := fun own o => Own.set_ne _ _ (Ne.symm qk2)
      simp (dsimp := false) only [go_sem, ↓reduceIte, Nat.reduceEqDiff, Nat.reduceLT, Nat.reduceAdd, Nat.reduceSub, Nat.reduceMul, Nat.reduceLeDiff, reduceCtorEq, Int.reduceNeg, Int.reduceToNat, Int.reduceLT, Int.reduceLE, Int.reduceGE, Int.reduceGT, Int.reduceEq, fk2]
      refine ACs.pn (repDecode_pn X (by omega)) ?_
      intro d1 hd1
      obtain ⟨u0, u1, u2, u3, u4, u5, u6, u7, ue, rfl⟩ := hd1.form
      have hsm := SameReply_refl u0 u1 u2 u3 u4 u5 u6 u7
      unfold repA at hd1 hsm ⊢
      simp (dsimp := false) only [go_sem, ↓reduceIte, Nat.reduceEqDiff, Nat.reduceLT, Nat.reduceAdd, Nat.reduceSub, Nat.reduceMul, Nat.reduceLeDiff, reduceCtorEq, Int.reduceNeg, Int.reduceToNat, Int.reduceLT, Int.reduceLE, Int.reduceGE, Int.reduceGT, Int.reduceEq]
      intro k3 hk3
      refine ACs.pn (rrepDecode_pn X (by omega)) ?_
      intro d2 hd2
      have hd2 := hd2.unique hd1
      subst hd2
      simp (dsimp := false) only [go_sem, ↓reduceIte, Nat.reduceEqDiff, Nat.reduceLT, Nat.reduceAdd, Nat.reduceSub, Nat.reduceMul, Nat.reduceLeDiff, reduceCtorEq, Int.reduceNeg, Int.reduceToNat, Int.reduceLT, Int.reduceLE, Int.reduceGE, Int.reduceGT, Int.reduceEq]
      intro k4 hk4
      have qk4 := none_ne hk4
      have fk4 : ∀ (own : Own) o, (own.set k4 o) k3 = own k3 := fun own o => Own.set_ne _ _ (Ne.symm qk4)
      simp (dsimp := false) only [go_sem, ↓reduceIte, Nat.reduceEqDiff, Nat.reduceLT, Nat.reduceAdd, Nat.reduceSub, Nat.reduceMul, Nat.reduceLeDiff, reduceCtorEq, Int.reduceNeg, Int.reduceToNat, Int.reduceLT, Int.reduceLE, Int.reduceGE, Int.reduceGT, Int.reduceEq, fk4]
      refine ACs.pure hsm ?_
      simp (dsimp := false) only [go_sem, ↓reduceIte, Nat.reduceEqDiff, Nat.reduceLT, Nat.reduceAdd, Nat.reduceSub, Nat.reduceMul, Nat.reduceLeDiff, reduceCtorEq, Int.reduceNeg, Int.reduceToNat, Int.reduceLT, Int.reduceLE, Int.reduceGE, Int.reduceGT, Int.reduceEq]
      refine ACs.pn (prtDecode_pn X other (by omega)) ?_
      intro d1 hd1
      obtain ⟨u0, u1, u2, u3, u4, u5, u6, u7, u8, ue, rfl⟩ := hd1.form
      have hsm := SamePart_refl u1 u2 u3 u4 u5 u6 u7 u8
      unfold prtA at hd1 hsm ⊢
      simp (dsimp := false) only [go_sem, ↓reduceIte, Nat.reduceEqDiff, Nat.reduceLT, Nat.reduceAdd, Nat.reduceSub, Nat.reduceMul, Nat.reduceLeDiff, reduceCtorEq, Int.reduceNeg, Int.reduceToNat, Int.reduceLT, Int.reduceLE, Int.reduceGE, Int.reduceGT, Int.reduceEq]
      intro k5 hk5
      refine ACs.pn (rprtDecode_pn X other (by omega)) ?_
      intro d2 hd2
      have hd2 := hd2.unique hd1
      subst hd2
      simp (dsimp := false) only [go_sem, ↓reduceIte, Nat.reduceEqDiff, Nat.reduceLT, Nat.reduceAdd, Nat.reduceSub, Nat.reduceMul, Nat.reduceLeDiff, reduceCtorEq, Int.reduceNeg, Int.reduceToNat, Int.reduceLT, Int.reduceLE, Int.reduceGE, Int.reduceGT, Int.reduceEq]
      intro k6 hk6
      have qk6 := none_ne hk6
      have fk6 : ∀ (own : Own) o, (own.set k6 o) k5 = own k5 := fun own o => Own.set_ne _ _ (Ne.symm qk6)
      simp (dsimp := false) only [go_sem, ↓reduceIte, Nat.reduceEqDiff, Nat.reduceLT, Nat.reduceAdd, Nat.reduceSub, Nat.reduceMul, Nat.reduceLeDiff, reduceCtorEq, Int.reduceNeg, Int.reduceToNat, Int.reduceLT, Int.reduceLE, Int.reduceGE, Int.reduceGT, Int.reduceEq, fk6]
      refine ACs.pure hsm ?_
      simp (dsimp := false) only [go_sem, ↓reduceIte, Nat.reduceEqDiff, Nat.reduceLT, Nat.reduceAdd, Nat.reduceSub, Nat.reduceMul, Nat.reduceLeDiff, reduceCtorEq, Int.reduceNeg, Int.reduceToNat, Int.reduceLT, Int.reduceLE, Int.reduceGE, Int.reduceGT, Int.reduceEq]
      refine ACs.pn (errDecode_pn X (by omega)) ?_
      intro d1 hd1
      obtain ⟨_, _, _, _, _, _, _, _, rfl⟩ := hd1.form
      unfold errA at hd1 ⊢
      simp (dsimp := false) only [go_sem, ↓reduceIte, Nat.reduceEqDiff, Nat.reduceLT, Nat.reduceAdd, Nat.reduceSub, Nat.reduceMul, Nat.reduceLeDiff, reduceCtorEq, Int.reduceNeg, Int.reduceToNat, Int.reduceLT, Int.reduceLE, Int.reduceGE, Int.reduceGT, Int.reduceEq]
      intro k7 hk7
      refine ACs.pn (rerrDecode_pn X (by omega)) ?_
      intro d2 hd2
      have hd2 := hd2.unique hd1
      subst hd2
      simp (dsimp := false) only [go_sem, ↓reduceIte, Nat.reduceEqDiff, Nat.reduceLT, Nat.reduceAdd, Nat.reduceSub, Nat.reduceMul, Nat.reduceLeDiff, reduceCtorEq, Int.reduceNeg, Int.reduceToNat, Int.reduceLT, Int.reduceLE, Int.reduceGE, Int.reduceGT, Int.reduceEq]
      intro k8 hk8
      have qk8 := none_ne hk8
      have fk8 : ∀ (own : Own) o, (own.set k8 o) k7 = own k7 := fun own o => Own.set_ne _ _ (Ne.symm qk8)
      simp (dsimp := false) only [go_sem, ↓reduceIte, Nat.reduceEqDiff, Nat.reduceLT, Nat.reduceAdd, Nat.reduceSub, Nat.reduceMul, Nat.reduceLeDiff, reduceCtorEq, Int.reduceNeg, Int.reduceToNat, Int.reduceLT, Int.reduceLE, Int.reduceGE, Int.reduceGT, Int.reduceEq, fk8, w1]
      (try simp (dsimp := false) only [go_sem, ↓reduceIte, Nat.reduceEqDiff, Nat.reduceLT, Nat.reduceAdd, Nat.reduceSub, Nat.reduceMul, Nat.reduceLeDiff, reduceCtorEq, Int.reduceNeg, Int.reduceToNat, Int.reduceLT, Int.reduceLE, Int.reduceGE, Int.reduceGT, Int.reduceEq, w1])
      refine ⟨j + 1, by omega, ?_, by omega⟩
      (refine Ghost.of ?_ (fun _ _ h => by cases h); (repeat' (first | exact all_nil | refine all_cons ?_ ?_)) <;> (first | (simp (dsimp := false) only [go_sem, ↓reduceIte, Nat.reduceEqDiff, Nat.reduceLT, Nat.reduceAdd, Nat.reduceSub, Nat.reduceMul, Nat.reduceLeDiff, reduceCtorEq, Int.reduceNeg, Int.reduceToNat, Int.reduceLT, Int.reduceLE, Int.reduceGE, Int.reduceGT, Int.reduceEq]; done) | (simp (dsimp := false) only [go_sem, ↓reduceIte, Nat.reduceEqDiff, Nat.reduceLT, Nat.reduceAdd, Nat.reduceSub, Nat.reduceMul, Nat.reduceLeDiff, reduceCtorEq, Int.reduceNeg, Int.reduceToNat, Int.reduceLT, Int.reduceLE, Int.reduceGE, Int.reduceGT, Int.reduceEq]; rfl)))
    · simp (dsimp := false) only [go_sem, ↓reduceIte, Nat.reduceEqDiff, Nat.reduceLT, Nat.reduceAdd, Nat.reduceSub, Nat.reduceMul, Nat.reduceLeDiff, reduceCtorEq, Int.reduceNeg, Int.reduceToNat, Int.reduceLT, Int.reduceLE, Int.reduceGE, Int.reduceGT, Int.reduceEq, hj2]
end Go.Proofs.YtghnigbihllnmaaGreat.Fn
