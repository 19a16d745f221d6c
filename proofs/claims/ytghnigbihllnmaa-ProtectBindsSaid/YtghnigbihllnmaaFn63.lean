/- The law on what is made and opened: keys, types, changed texts. -/
import Derived.Test.YtghnigbihllnmaaFn58
import Derived.Test.YtghnigbihllnmaaFn46
import Derived.Test.YtghnigbihllnmaaFn20
set_option linter.unusedVariables false
set_option linter.unusedSimpArgs false
namespace Go.Proofs.Ytghnigbihllnmaa.Fn
open Go Hl Sp Ty
set_option maxRecDepth 100000
theorem xor_ne (p : UInt8) (y : Int) (h : 0 < y) (h' : y ≤ 255) : u8 ((BitVec.ofInt 8 (p.toNat : Int) ^^^ BitVec.ofInt 8 y).toNat : Int) ≠ p := by
  intro e
  have h1 := congrArg (fun z : UInt8 => (z.toNat : Int)) e
  simp only [u8_toNat] at h1
  have h2 := (BitVec.ofInt 8 (p.toNat : Int) ^^^ BitVec.ofInt 8 y).isLt
  have hp := p.toNat_lt
  have h3 : (BitVec.ofInt 8 (p.toNat : Int) ^^^ BitVec.ofInt 8 y).toNat = (BitVec.ofInt 8 (p.toNat : Int)).toNat := by
    rw [BitVec.toNat_ofInt]
    omega
  have h4 := BitVec.eq_of_toNat_eq h3
  have h5 : BitVec.ofInt 8 y = 0#8 := by
    have := congrArg (fun z => BitVec.ofInt 8 (p.toNat : Int) ^^^ z) h4
    simpa [← BitVec.xor_assoc] using this
  have h6 := congrArg BitVec.toNat h5
  rw [BitVec.toNat_ofInt] at h6
  simp at h6
  omega
theorem safB_set (lt : Bool) (t x : List UInt8) (i : Nat) (v : UInt8) (hi : i < t.length) : (safB lt t x).set (4 + i) v = safB lt (t.set i v) x := by
  have e : ∀ t : List UInt8, safB lt t x = (hdB 7 lt ++ numB (t.length : Int) 2 lt) ++ (t ++ (numB (x.length : Int) 2 lt ++ x)) := fun t => by unfold safB safF; simp only [List.append_assoc]
  have hl : ∀ n : Int, (hdB 7 lt ++ numB n 2 lt).length = 4 := fun n => by rw [List.length_append, hdB_length, numB_length]
  rw [e, e, List.length_set, List.set_append_right _ _ (by rw [hl]; omega), hl, List.set_append_left _ _ (by omega)]
  congr 3
  omega
theorem safB_get4 (lt : Bool) (t x : List UInt8) (h : 0 < t.length) : (safB lt t x).getD 4 0 = t.getD 0 0 := by
  have e : safB lt t x = (hdB 7 lt ++ numB (t.length : Int) 2 lt) ++ (t ++ (numB (x.length : Int) 2 lt ++ x)) := by unfold safB safF; simp only [List.append_assoc]
  have hl : (hdB 7 lt ++ numB (t.length : Int) 2 lt).length = 4 := by rw [List.length_append, hdB_length, numB_length]
  rw [e, List.getD_eq_getElem?_getD, List.getElem?_append_right (by omega), hl, List.getElem?_append_left (by omega), ← List.getD_eq_getElem?_getD]
theorem safB_get (lt : Bool) (t x : List UInt8) (i : Nat) (h : i < t.length) : (safB lt t x).getD (4 + i) 0 = t.getD i 0 := by
  have e : safB lt t x = (hdB 7 lt ++ numB (t.length : Int) 2 lt) ++ (t ++ (numB (x.length : Int) 2 lt ++ x)) := by unfold safB safF; simp only [List.append_assoc]
  have hl : (hdB 7 lt ++ numB (t.length : Int) 2 lt).length = 4 := by rw [List.length_append, hdB_length, numB_length]
  rw [e, List.getD_eq_getElem?_getD, List.getElem?_append_right (by omega), hl, List.getElem?_append_left (by omega), ← List.getD_eq_getElem?_getD, show 4 + i - 4 = i by omega]
theorem set_ne_self {l : List UInt8} {i : Nat} {v : UInt8} (hi : i < l.length) (h : v ≠ l.getD i 0) : l ≠ l.set i v := fun e => by
  have := congrArg (fun z : List UInt8 => z.getD i 0) e
  simp only [List.getD_eq_getElem?_getD, List.getElem?_set_self hi, Option.getD_some] at this
  rw [← List.getD_eq_getElem?_getD] at this
  exact h this.symm
theorem xor_hd (lt : Bool) (r : List UInt8) : u8 ((BitVec.ofInt 8 (((hdB 7 lt ++ r).getD 1 0).toNat : Int) ^^^ BitVec.ofInt 8 1).toNat : Int) = u8 (14 + flagZ (!lt)) := by
  have e : (hdB 7 lt ++ r).getD 1 0 = u8 (2 * 7 + flagZ lt) := rfl
  rw [e]
  cases lt <;> decide
theorem set_hd (lt : Bool) (r : List UInt8) (w : UInt8) (hw : w = u8 (14 + flagZ (!lt))) : (hdB 7 lt ++ r).set 1 w = hdB 7 (!lt) ++ r := by
  subst hw
  rfl
/-- A safe message whose text was changed. -/
theorem opS_text {lt : Bool} {P t x : List UInt8} {k : Int} {d : AV} (hl : t.length ≤ 1000 ∧ x.length ≤ 1012) (ho : openR x 6 k = some P) (hne : P ≠ t) (hd : opS true (safB lt t x) k d) : d = .tup [conZ, .raw (.int .i64 41)] :=
  hd.unique (.inl ⟨lt, t, x, ⟨by rw [safOk, safChk, if_neg (by omega)], rfl⟩, .inl ⟨rfl, .inr ⟨fun body y ti ad tm h h2 _ => (by rw [ho] at h; injection h with h; exact hne (h.trans (h2 t rfl))), rfl⟩⟩⟩)
/-- A safe message whose byte order was changed. -/
theorem opS_order {lt : Bool} {P x : List UInt8} {k : Int} {d : AV} (hf : P.getD 0 0 = u8 (flagZ lt)) (hp : 0 < P.length) (hd : opS true (hdB 7 (!lt) ++ safF lt P x) k d) : ∃ e, e ≠ 0 ∧ d = .tup [conZ, .raw (.int .i64 e)] := by
  have hb : (hdB 7 (!lt) ++ safF lt P x).getD 4 0 = u8 (flagZ lt) := by
    have := safB_get4 lt P x hp
    rw [hf] at this
    rw [← this]
    rfl
  rcases hd with ⟨lt', t, x', h1, ⟨hs, hh⟩ | ⟨hs, rfl⟩⟩ | ⟨lt', x', h1, ⟨hs, hh⟩ | ⟨hs, rfl⟩⟩ | ⟨h1, h2, rfl⟩
  · rcases hh with ⟨body, y, ti, ad, tm, g1, g2, g3, rfl⟩ | ⟨g1, rfl⟩
    · exfalso
      have hbt := g2 t rfl
      subst hbt
      have hl : lt' = !lt := by
        have := h1.hdr
        rw [hdR_put (by decide)] at this
        simp only [Prod.mk.injEq] at this
        exact this.2.1.symm
      subst hl
      have f := g3.flag
      have e := safB_get4 (!lt) body x' f.2
      rw [h1.2, hb, f.1] at e
      cases lt <;> exact absurd e (by decide)
    · exact ⟨_, by decide, rfl⟩
  · cases hs
  · cases hs
  · exact ⟨_, by decide, rfl⟩
  · exact ⟨_, ptErr_ne _, rfl⟩
set_option maxHeartbeats 16000000 in
theorem ProtectBinds_pc (data bs : List UInt8) (little safe : Bool) (n m at_ by_ : Int) (hn : 0 ≤ n ∧ n ≤ 255) (hm : 0 ≤ m ∧ m ≤ 255) (ha : 0 ≤ at_ ∧ at_ ≤ 65535) (hb : 0 ≤ by_ ∧ by_ ≤ 255) :
    PC Try.prog 10 [.lst 1 (data.map byteA), .lst 1 (bs.map byteA), .raw (.bool little), .raw (.bool safe), .raw (.int .u8 n), .raw (.int .u8 m), .raw (.int .u16 at_), .raw (.int .u8 by_)] (.raw (.bool true)) := by
  refine PC.of_ac ?_
  have wn : IntKind.i64.wrap n = n := wrap_i64 (by omega) (by omega)
  have wm : IntKind.i64.wrap m = m := wrap_i64 (by omega) (by omega)
  have hSn := Session_pure n hn.1 (by omega)
  have hSm := Session_pure m hm.1 (by omega)
  have hcl : ∀ z : Int, 0 ≤ z → z ≤ 255 → clsZ (144115188075855873 + z) ≠ 0 := fun z h0 h1 => by
    unfold clsZ
    rw [if_pos (by omega)]
    omega
  have hcn := hcl n hn.1 hn.2
  by_cases h1 : (data.length : Int) > 300
  · refine AC.of_body (M := [165,179]) Try.func10 rfl (by kernel_rfl) (Nat.le_of_ble_eq_true rfl) ?_; simp only [Try.results10, Try.ntmps10]
    simp (dsimp := false) only [go_sem, ↓reduceIte, Nat.reduceEqDiff, Nat.reduceLT, Nat.reduceAdd, Nat.reduceSub, Nat.reduceMul, Nat.reduceLeDiff, reduceCtorEq, Int.reduceNeg, Int.reduceToNat, Int.reduceLT, Int.reduceLE, Int.reduceGE, Int.reduceGT, Int.reduceEq]
    refine ACs.pure awake11_pure ?_
    simp (dsimp := false) only [go_sem, ↓reduceIte, Nat.reduceEqDiff, Nat.reduceLT, Nat.reduceAdd, Nat.reduceSub, Nat.reduceMul, Nat.reduceLeDiff, reduceCtorEq, Int.reduceNeg, Int.reduceToNat, Int.reduceLT, Int.reduceLE, Int.reduceGE, Int.reduceGT, Int.reduceEq, h1]
  by_cases h2 : (bs.length : Int) > 40
  · refine AC.of_body (M := [165,179]) Try.func10 rfl (by kernel_rfl) (Nat.le_of_ble_eq_true rfl) ?_; simp only [Try.results10, Try.ntmps10]
    simp (dsimp := false) only [go_sem, ↓reduceIte, Nat.reduceEqDiff, Nat.reduceLT, Nat.reduceAdd, Nat.reduceSub, Nat.reduceMul, Nat.reduceLeDiff, reduceCtorEq, Int.reduceNeg, Int.reduceToNat, Int.reduceLT, Int.reduceLE, Int.reduceGE, Int.reduceGT, Int.reduceEq]
    refine ACs.pure awake11_pure ?_
    simp (dsimp := false) only [go_sem, ↓reduceIte, Nat.reduceEqDiff, Nat.reduceLT, Nat.reduceAdd, Nat.reduceSub, Nat.reduceMul, Nat.reduceLeDiff, reduceCtorEq, Int.reduceNeg, Int.reduceToNat, Int.reduceLT, Int.reduceLE, Int.reduceGE, Int.reduceGT, Int.reduceEq, h1, h2]
  obtain ⟨ti, ad, tm, hr, hA⟩ := content11_det data bs (by omega)
  have hA := hA data
  obtain ⟨K, hK⟩ : ∃ K, 144115188075855873 + n = K := ⟨_, rfl⟩
  obtain ⟨J, hJ⟩ : ∃ J, 144115188075855873 + m = J := ⟨_, rfl⟩
  rw [hK] at hSn hcn
  rw [hJ] at hSm
  have hc0 : conChk little data ti ad tm = 0 := by rw [conChk, if_neg (by omega), if_neg (by omega)]
  have hS0 : slE little data ti ad tm K = 0 := by rw [slE, if_pos hc0, if_neg hcn]
  have hsm := Same11_refl false false data ti ad tm
  unfold conA at hA hsm
  have g1 : (0 : Int) ≠ 41 := by decide
  cases safe
  · have hM := MakePrivate_pure little data ti ad tm K (by omega) (by omega) (by omega)
    rw [mkA, hS0, if_pos rfl] at hM
    have hop : ∀ d, opS false (mkB false little data ti ad tm K) J d → d = if K = J then .tup [conA little data ti ad tm, .raw (.int .i64 0)] else .tup [conZ, .raw (.int .i64 41)] := fun d h => opS_mk hS0 (by omega) (by omega) h
    have hot : ∀ d, opS true (mkB false little data ti ad tm K) J d → d = .tup [conZ, .raw (.int .i64 40)] := fun d h => opS_other (safe := false) hS0 h
    have hBl := mkB_length (safe := false) hS0
    obtain ⟨B, hB⟩ : ∃ B, mkB false little data ti ad tm K = B := ⟨_, rfl⟩
    rw [hB] at hM hop hot hBl
    unfold conA at hM
    refine AC.of_body (M := [165,179]) Try.func10 rfl (by kernel_rfl) (Nat.le_of_ble_eq_true rfl) ?_; simp only [Try.results10, Try.ntmps10]
    simp (dsimp := false) only [go_sem, ↓reduceIte, Nat.reduceEqDiff, Nat.reduceLT, Nat.reduceAdd, Nat.reduceSub, Nat.reduceMul, Nat.reduceLeDiff, reduceCtorEq, Int.reduceNeg, Int.reduceToNat, Int.reduceLT, Int.reduceLE, Int.reduceGE, Int.reduceGT, Int.reduceEq]
    refine ACs.pure awake11_pure ?_
    simp (dsimp := false) only [go_sem, ↓reduceIte, Nat.reduceEqDiff, Nat.reduceLT, Nat.reduceAdd, Nat.reduceSub, Nat.reduceMul, Nat.reduceLeDiff, reduceCtorEq, Int.reduceNeg, Int.reduceToNat, Int.reduceLT, Int.reduceLE, Int.reduceGE, Int.reduceGT, Int.reduceEq, h1, h2]
    refine ACs.pure hA ?_
    simp (dsimp := false) only [go_sem, ↓reduceIte, Nat.reduceEqDiff, Nat.reduceLT, Nat.reduceAdd, Nat.reduceSub, Nat.reduceMul, Nat.reduceLeDiff, reduceCtorEq, Int.reduceNeg, Int.reduceToNat, Int.reduceLT, Int.reduceLE, Int.reduceGE, Int.reduceGT, Int.reduceEq, wn]
    refine ACs.pure hSn ?_
    simp (dsimp := false) only [go_sem, ↓reduceIte, Nat.reduceEqDiff, Nat.reduceLT, Nat.reduceAdd, Nat.reduceSub, Nat.reduceMul, Nat.reduceLeDiff, reduceCtorEq, Int.reduceNeg, Int.reduceToNat, Int.reduceLT, Int.reduceLE, Int.reduceGE, Int.reduceGT, Int.reduceEq, wm]
    refine ACs.pure hSm ?_
    simp (dsimp := false) only [go_sem, ↓reduceIte, Nat.reduceEqDiff, Nat.reduceLT, Nat.reduceAdd, Nat.reduceSub, Nat.reduceMul, Nat.reduceLeDiff, reduceCtorEq, Int.reduceNeg, Int.reduceToNat, Int.reduceLT, Int.reduceLE, Int.reduceGE, Int.reduceGT, Int.reduceEq]
    intro k1 hk1
    refine ACs.pure hM ?_
    simp (dsimp := false) only [go_sem, ↓reduceIte, Nat.reduceEqDiff, Nat.reduceLT, Nat.reduceAdd, Nat.reduceSub, Nat.reduceMul, Nat.reduceLeDiff, reduceCtorEq, Int.reduceNeg, Int.reduceToNat, Int.reduceLT, Int.reduceLE, Int.reduceGE, Int.reduceGT, Int.reduceEq]
    refine ACs.pn (OpenPrivate_pn B _ (by omega)) ?_
    intro d hd
    have hd := hop d hd
    by_cases hKJ : K = J
    · rw [if_pos hKJ] at hd
      subst hd
      subst hKJ
      have hKJ : decide (K = K) = true := decide_eq_true rfl
      unfold conA
      simp (dsimp := false) only [go_sem, ↓reduceIte, Nat.reduceEqDiff, Nat.reduceLT, Nat.reduceAdd, Nat.reduceSub, Nat.reduceMul, Nat.reduceLeDiff, reduceCtorEq, Int.reduceNeg, Int.reduceToNat, Int.reduceLT, Int.reduceLE, Int.reduceGE, Int.reduceGT, Int.reduceEq]
      intro k2 hk2
      have q2 := none_ne hk2
      refine ACs.pn (OpenSafe_pn B _ (by omega)) ?_
      intro d hd
      have hd := hot d hd
      subst hd
      unfold conZ
      simp (dsimp := false) only [go_sem, ↓reduceIte, Nat.reduceEqDiff, Nat.reduceLT, Nat.reduceAdd, Nat.reduceSub, Nat.reduceMul, Nat.reduceLeDiff, reduceCtorEq, Int.reduceNeg, Int.reduceToNat, Int.reduceLT, Int.reduceLE, Int.reduceGE, Int.reduceGT, Int.reduceEq]
      intro k3 hk3
      have q3 := none_ne hk3
      rw [Own.set_ne _ _ q3] at hk3
      have q4 := none_ne hk3
      have a1 : ∀ (own : Own) o, (own.set k2 o) k1 = own k1 := fun own o => Own.set_ne _ _ (Ne.symm q2)
      have a3 : ∀ (own : Own) o, (own.set k3 o) k2 = own k2 := fun own o => Own.set_ne _ _ (Ne.symm q3)
      have a4 : ∀ (own : Own) o, (own.set k3 o) k1 = own k1 := fun own o => Own.set_ne _ _ (Ne.symm q4)
      simp (dsimp := false) only [go_sem, ↓reduceIte, Nat.reduceEqDiff, Nat.reduceLT, Nat.reduceAdd, Nat.reduceSub, Nat.reduceMul, Nat.reduceLeDiff, reduceCtorEq, Int.reduceNeg, Int.reduceToNat, Int.reduceLT, Int.reduceLE, Int.reduceGE, Int.reduceGT, Int.reduceEq, hKJ, a1, a3, a4]
      refine ACs.pure hsm ?_
      simp (dsimp := false) only [go_sem, ↓reduceIte, Nat.reduceEqDiff, Nat.reduceLT, Nat.reduceAdd, Nat.reduceSub, Nat.reduceMul, Nat.reduceLeDiff, reduceCtorEq, Int.reduceNeg, Int.reduceToNat, Int.reduceLT, Int.reduceLE, Int.reduceGE, Int.reduceGT, Int.reduceEq, hKJ]
    · rw [if_neg hKJ] at hd
      subst hd
      unfold conZ
      simp (dsimp := false) only [go_sem, ↓reduceIte, Nat.reduceEqDiff, Nat.reduceLT, Nat.reduceAdd, Nat.reduceSub, Nat.reduceMul, Nat.reduceLeDiff, reduceCtorEq, Int.reduceNeg, Int.reduceToNat, Int.reduceLT, Int.reduceLE, Int.reduceGE, Int.reduceGT, Int.reduceEq]
      intro k2 hk2
      refine ACs.pn (OpenSafe_pn B _ (by omega)) ?_
      intro d hd
      have hd := hot d hd
      subst hd
      unfold conZ
      simp (dsimp := false) only [go_sem, ↓reduceIte, Nat.reduceEqDiff, Nat.reduceLT, Nat.reduceAdd, Nat.reduceSub, Nat.reduceMul, Nat.reduceLeDiff, reduceCtorEq, Int.reduceNeg, Int.reduceToNat, Int.reduceLT, Int.reduceLE, Int.reduceGE, Int.reduceGT, Int.reduceEq]
      intro k3 hk3
      simp (dsimp := false) only [go_sem, ↓reduceIte, Nat.reduceEqDiff, Nat.reduceLT, Nat.reduceAdd, Nat.reduceSub, Nat.reduceMul, Nat.reduceLeDiff, reduceCtorEq, Int.reduceNeg, Int.reduceToNat, Int.reduceLT, Int.reduceLE, Int.reduceGE, Int.reduceGT, Int.reduceEq, hKJ]
  · have hM := MakeSafe_pure little data ti ad tm K (by omega) (by omega) (by omega)
    rw [mkA, hS0, if_pos rfl] at hM
    have hop : ∀ d, opS true (mkB true little data ti ad tm K) J d → d = if K = J then .tup [conA little data ti ad tm, .raw (.int .i64 0)] else .tup [conZ, .raw (.int .i64 41)] := fun d h => opS_mk hS0 (by omega) (by omega) h
    have hot : ∀ d, opS false (mkB true little data ti ad tm K) J d → d = .tup [conZ, .raw (.int .i64 40)] := fun d h => opS_other (safe := true) hS0 h
    have hfl := (show conIs (conB little data ti ad tm) little data ti ad tm from ⟨hc0, rfl⟩).flag
    have hPl := con_len hc0
    have hPg : 12 ≤ (conB little data ti ad tm).length := by
      rw [conB, padB, List.length_append, List.length_append, conF_length, List.length_singleton]
      omega
    have hO : openR (boxB 6 K (conB little data ti ad tm)) 6 K = some (conB little data ti ad tm) := by rw [openR_box 6 K K _ (by decide) hcn (by omega) (by omega) (by omega), if_pos rfl]
    rw [mkB, if_pos rfl] at hM hop hot
    obtain ⟨P, hP⟩ : ∃ P, conB little data ti ad tm = P := ⟨_, rfl⟩
    rw [hP] at hM hop hot hfl hPl hPg hO
    have hXl := boxB_length 6 K P
    obtain ⟨X, hX⟩ : ∃ X, boxB 6 K P = X := ⟨_, rfl⟩
    rw [hX] at hM hop hot hO hXl
    have hBl : (safB little P X).length = 18 + 2 * P.length := by rw [safB, List.length_append, hdB_length, safF_length]; omega
    have hBe : safB little P X = hdB 7 little ++ safF little P X := rfl
    have hset := fun i v hi => safB_set little P X i v hi
    have hget := fun i hi => safB_get little P X i hi
    obtain ⟨B, hB⟩ : ∃ B, safB little P X = B := ⟨_, rfl⟩
    rw [hB] at hM hop hot hBl hBe hset hget
    have hl20 : ¬ (B.length : Int) < 20 := by omega
    have hP0 : ¬ ((P.length : Int) = 0) := by omega
    have wl : IntKind.i64.wrap ((B.length : Int) - 4) = ((14 + 2 * P.length : Nat) : Int) := by rw [wrap_i64 (by omega) (by omega)]; omega
    have w14 : IntKind.i64.wrap (((14 + 2 * P.length : Nat) : Int) - 14) = ((2 * P.length : Nat) : Int) := by rw [wrap_i64 (by omega) (by omega)]; omega
    have td : ((2 * P.length : Nat) : Int).tdiv 2 = (P.length : Int) := by rw [Int.tdiv_eq_ediv_of_nonneg (by omega)]; omega
    have wc : IntKind.i64.wrap (P.length : Int) = P.length := wrap_i64 (by omega) (by omega)
    have wa : IntKind.i64.wrap at_ = at_ := wrap_i64 (by omega) (by omega)
    obtain ⟨i, hi, hil⟩ : ∃ i : Nat, at_.tmod (P.length : Int) = i ∧ i < P.length := ⟨(at_.tmod (P.length : Int)).toNat, by rw [Int.tmod_eq_emod_of_nonneg ha.1, Int.toNat_of_nonneg (Int.emod_nonneg _ hP0)], by
      have h5 := Int.emod_lt_of_pos at_ (show (0 : Int) < P.length by omega)
      have h6 := Int.emod_nonneg at_ hP0
      rw [Int.tmod_eq_emod_of_nonneg ha.1]
      omega⟩
    have w4 : IntKind.i64.wrap (4 + (i : Int)) = ((4 + i : Nat) : Int) := by rw [wrap_i64 (by omega) (by omega)]; omega
    have tn : (((4 + i : Nat) : Int)).toNat = 4 + i := Int.toNat_natCast _
    have hg : (B.map byteA).getD (4 + i) .any = .raw (.int .u8 ((B.getD (4 + i) 0).toNat)) := by rw [getD_byte (by omega)]; rfl
    have hg1 : (B.map byteA).getD 1 .any = .raw (.int .u8 ((B.getD 1 0).toNat)) := by rw [getD_byte (by omega)]; rfl
    have hbb : ∀ x, AV.raw (.int .u8 ((u8 x).toNat : Int)) = byteA (u8 x) := fun _ => rfl
    unfold conA at hM
    refine AC.of_body (M := [165,179]) Try.func10 rfl (by kernel_rfl) (Nat.le_of_ble_eq_true rfl) ?_; simp only [Try.results10, Try.ntmps10]
    simp (dsimp := false) only [go_sem, ↓reduceIte, Nat.reduceEqDiff, Nat.reduceLT, Nat.reduceAdd, Nat.reduceSub, Nat.reduceMul, Nat.reduceLeDiff, reduceCtorEq, Int.reduceNeg, Int.reduceToNat, Int.reduceLT, Int.reduceLE, Int.reduceGE, Int.reduceGT, Int.reduceEq]
    refine ACs.pure awake11_pure ?_
    simp (dsimp := false) only [go_sem, ↓reduceIte, Nat.reduceEqDiff, Nat.reduceLT, Nat.reduceAdd, Nat.reduceSub, Nat.reduceMul, Nat.reduceLeDiff, reduceCtorEq, Int.reduceNeg, Int.reduceToNat, Int.reduceLT, Int.reduceLE, Int.reduceGE, Int.reduceGT, Int.reduceEq, h1, h2]
    refine ACs.pure hA ?_
    simp (dsimp := false) only [go_sem, ↓reduceIte, Nat.reduceEqDiff, Nat.reduceLT, Nat.reduceAdd, Nat.reduceSub, Nat.reduceMul, Nat.reduceLeDiff, reduceCtorEq, Int.reduceNeg, Int.reduceToNat, Int.reduceLT, Int.reduceLE, Int.reduceGE, Int.reduceGT, Int.reduceEq, wn]
    refine ACs.pure hSn ?_
    simp (dsimp := false) only [go_sem, ↓reduceIte, Nat.reduceEqDiff, Nat.reduceLT, Nat.reduceAdd, Nat.reduceSub, Nat.reduceMul, Nat.reduceLeDiff, reduceCtorEq, Int.reduceNeg, Int.reduceToNat, Int.reduceLT, Int.reduceLE, Int.reduceGE, Int.reduceGT, Int.reduceEq, wm]
    refine ACs.pure hSm ?_
    simp (dsimp := false) only [go_sem, ↓reduceIte, Nat.reduceEqDiff, Nat.reduceLT, Nat.reduceAdd, Nat.reduceSub, Nat.reduceMul, Nat.reduceLeDiff, reduceCtorEq, Int.reduceNeg, Int.reduceToNat, Int.reduceLT, Int.reduceLE, Int.reduceGE, Int.reduceGT, Int.reduceEq]
    intro k1 hk1
    refine ACs.pure hM ?_
    simp (dsimp := false) only [go_sem, ↓reduceIte, Nat.reduceEqDiff, Nat.reduceLT, Nat.reduceAdd, Nat.reduceSub, Nat.reduceMul, Nat.reduceLeDiff, reduceCtorEq, Int.reduceNeg, Int.reduceToNat, Int.reduceLT, Int.reduceLE, Int.reduceGE, Int.reduceGT, Int.reduceEq]
    refine ACs.pn (OpenSafe_pn B _ (by omega)) ?_
    intro d hd
    have hd := hop d hd
    by_cases hKJ : K = J
    · rw [if_pos hKJ] at hd
      subst hd
      subst hKJ
      have hKJ : decide (K = K) = true := decide_eq_true rfl
      unfold conA
      simp (dsimp := false) only [go_sem, ↓reduceIte, Nat.reduceEqDiff, Nat.reduceLT, Nat.reduceAdd, Nat.reduceSub, Nat.reduceMul, Nat.reduceLeDiff, reduceCtorEq, Int.reduceNeg, Int.reduceToNat, Int.reduceLT, Int.reduceLE, Int.reduceGE, Int.reduceGT, Int.reduceEq]
      intro k2 hk2
      have q2 := none_ne hk2
      refine ACs.pn (OpenPrivate_pn B _ (by omega)) ?_
      intro d hd
      have hd := hot d hd
      subst hd
      unfold conZ
      simp (dsimp := false) only [go_sem, ↓reduceIte, Nat.reduceEqDiff, Nat.reduceLT, Nat.reduceAdd, Nat.reduceSub, Nat.reduceMul, Nat.reduceLeDiff, reduceCtorEq, Int.reduceNeg, Int.reduceToNat, Int.reduceLT, Int.reduceLE, Int.reduceGE, Int.reduceGT, Int.reduceEq]
      intro k3 hk3
      have q3 := none_ne hk3
      rw [Own.set_ne _ _ q3] at hk3
      have q4 := none_ne hk3
      have a1 : ∀ (own : Own) o, (own.set k2 o) k1 = own k1 := fun own o => Own.set_ne _ _ (Ne.symm q2)
      have a3 : ∀ (own : Own) o, (own.set k3 o) k2 = own k2 := fun own o => Own.set_ne _ _ (Ne.symm q3)
      have a4 : ∀ (own : Own) o, (own.set k3 o) k1 = own k1 := fun own o => Own.set_ne _ _ (Ne.symm q4)
      simp (dsimp := false) only [go_sem, ↓reduceIte, Nat.reduceEqDiff, Nat.reduceLT, Nat.reduceAdd, Nat.reduceSub, Nat.reduceMul, Nat.reduceLeDiff, reduceCtorEq, Int.reduceNeg, Int.reduceToNat, Int.reduceLT, Int.reduceLE, Int.reduceGE, Int.reduceGT, Int.reduceEq, hKJ, a1, a3, a4]
      refine ACs.pure hsm ?_
      simp (dsimp := false) only [go_sem, ↓reduceIte, Nat.reduceEqDiff, Nat.reduceLT, Nat.reduceAdd, Nat.reduceSub, Nat.reduceMul, Nat.reduceLeDiff, reduceCtorEq, Int.reduceNeg, Int.reduceToNat, Int.reduceLT, Int.reduceLE, Int.reduceGE, Int.reduceGT, Int.reduceEq, hKJ, hl20]
      intro kx hkx
      have hmvx := fun k' o o' => Own.set_move hkx k' o o'
      refine ⟨okA_bytes B, by omega, by omega, fun kx' cx hkx' hcx => ?_⟩
      have hkx'' := Own.set_none hkx hkx'
      simp (dsimp := false) only [go_sem, ↓reduceIte, Nat.reduceEqDiff, Nat.reduceLT, Nat.reduceAdd, Nat.reduceSub, Nat.reduceMul, Nat.reduceLeDiff, reduceCtorEq, Int.reduceNeg, Int.reduceToNat, Int.reduceLT, Int.reduceLE, Int.reduceGE, Int.reduceGT, Int.reduceEq, wl, w14, td, wc, wa, hi, w4, tn, flat_byte, hg, wrap_u8, hmvx]
      refine ⟨hP0, by omega, by omega, by omega, by omega, fun ky hky => ?_⟩
      have hmvy := fun k' o o' => Own.set_move hky k' o o'
      refine ⟨okA_bytes B, by omega, by omega, fun ky' cy hky' hcy => ?_⟩
      have hky'' := Own.set_none hky hky'
      have qxy := none_ne hky''
      have f1 : ∀ (own : Own) o, (own.set ky' o) kx' = own kx' := fun own o => Own.set_ne _ _ (Ne.symm qxy)
      have f2 : ∀ (own : Own), (own.del kx') ky' = own ky' := fun own => Own.del_ne _ qxy
      simp (dsimp := false) only [go_sem, ↓reduceIte, Nat.reduceEqDiff, Nat.reduceLT, Nat.reduceAdd, Nat.reduceSub, Nat.reduceMul, Nat.reduceLeDiff, reduceCtorEq, Int.reduceNeg, Int.reduceToNat, Int.reduceLT, Int.reduceLE, Int.reduceGE, Int.reduceGT, Int.reduceEq, flat_byte, hg1, wrap_u8, hmvy]
      refine ⟨by omega, by omega, by omega, by omega, ?_⟩
      obtain ⟨V, hV⟩ : ∃ V, u8 ((BitVec.ofInt IntKind.u8.bits ((B.getD (4 + i) 0).toNat : Int) ^^^ BitVec.ofInt IntKind.u8.bits by_).toNat : Int) = V := ⟨_, rfl⟩
      obtain ⟨W, hW⟩ : ∃ W, u8 ((BitVec.ofInt IntKind.u8.bits ((B.getD 1 0).toNat : Int) ^^^ BitVec.ofInt IntKind.u8.bits 1).toNat : Int) = W := ⟨_, rfl⟩
      simp only [hV, hW]
      have hbV : AV.raw (.int .u8 (V.toNat : Int)) = byteA V := rfl
      have hbW : AV.raw (.int .u8 (W.toNat : Int)) = byteA W := rfl
      simp only [hbV, hbW, set_byte]
      have hVn : by_ ≠ 0 → P ≠ P.set i V := fun h0 => set_ne_self hil (by
        rw [← hV, ← hget i hil]
        exact xor_ne _ by_ (by omega) (by omega))
      have hWe : B.set 1 W = hdB 7 (!little) ++ safF little P X := by
        rw [hBe]
        refine set_hd little _ W ?_
        rw [← hW, hBe]
        exact xor_hd little _
      refine ACs.arg (pre := []) (post := [.raw (.int .u64 K)]) (rowW _ kx' cx cx _ (B.set (4 + i) V) [] ?_ ?_ ?_ ?_) ?_
      · simp only [f1, Own.set_same, List.append_nil]
      · simp
      · omega
      · omega
      refine ACs.pn (OpenSafe_pn (B.set (4 + i) V) K (by simp; omega)) ?_
      intro d hd
      have hx41 : by_ ≠ 0 → d = .tup [conZ, .raw (.int .i64 41)] := fun h0 => by
        rw [hset i V hil] at hd
        exact opS_text (by rw [List.length_set]; omega) hO (hVn h0) hd
      have hx42 : ∃ lt' y t1 t2 t3 e, d = .tup [conA lt' y t1 t2 t3, .raw (.int .i64 e)] ∧ (by_ ≠ 0 → e = 41) := by
        by_cases h0 : by_ = 0
        · obtain ⟨lt', y, t1, t2, t3, e, he⟩ := hd.form
          exact ⟨lt', y, t1, t2, t3, e, he, fun h => absurd h0 h⟩
        · exact ⟨false, [], 0, 0, 0, 41, hx41 h0, fun _ => rfl⟩
      obtain ⟨lt', y, t1, t2, t3, e, hde, he41⟩ := hx42
      clear hx41 hd
      subst hde
      unfold conA
      simp (dsimp := false) only [go_sem, ↓reduceIte, Nat.reduceEqDiff, Nat.reduceLT, Nat.reduceAdd, Nat.reduceSub, Nat.reduceMul, Nat.reduceLeDiff, reduceCtorEq, Int.reduceNeg, Int.reduceToNat, Int.reduceLT, Int.reduceLE, Int.reduceGE, Int.reduceGT, Int.reduceEq]
      refine ACs.arg (pre := []) (post := [.raw (.int .u64 K)]) (rowW _ ky' cy cy _ (B.set 1 W) [] ?_ ?_ ?_ ?_) ?_
      · simp only [f2, Own.set_same, List.append_nil]
      · simp
      · omega
      · omega
      refine ACs.pn (OpenSafe_pn (B.set 1 W) K (by simp; omega)) ?_
      intro d hd
      rw [hWe] at hd
      obtain ⟨e2, he2, rfl⟩ := opS_order hfl.1 hfl.2 hd
      unfold conZ
      simp (dsimp := false) only [go_sem, ↓reduceIte, Nat.reduceEqDiff, Nat.reduceLT, Nat.reduceAdd, Nat.reduceSub, Nat.reduceMul, Nat.reduceLeDiff, reduceCtorEq, Int.reduceNeg, Int.reduceToNat, Int.reduceLT, Int.reduceLE, Int.reduceGE, Int.reduceGT, Int.reduceEq]
      intro k5 hk5
      by_cases h0 : by_ = 0
      · simp (dsimp := false) only [go_sem, ↓reduceIte, Nat.reduceEqDiff, Nat.reduceLT, Nat.reduceAdd, Nat.reduceSub, Nat.reduceMul, Nat.reduceLeDiff, reduceCtorEq, Int.reduceNeg, Int.reduceToNat, Int.reduceLT, Int.reduceLE, Int.reduceGE, Int.reduceGT, Int.reduceEq, h0, he2]
      · have he := he41 h0
        simp (dsimp := false) only [go_sem, ↓reduceIte, Nat.reduceEqDiff, Nat.reduceLT, Nat.reduceAdd, Nat.reduceSub, Nat.reduceMul, Nat.reduceLeDiff, reduceCtorEq, Int.reduceNeg, Int.reduceToNat, Int.reduceLT, Int.reduceLE, Int.reduceGE, Int.reduceGT, Int.reduceEq, h0, he, he2]
    · rw [if_neg hKJ] at hd
      subst hd
      unfold conZ
      simp (dsimp := false) only [go_sem, ↓reduceIte, Nat.reduceEqDiff, Nat.reduceLT, Nat.reduceAdd, Nat.reduceSub, Nat.reduceMul, Nat.reduceLeDiff, reduceCtorEq, Int.reduceNeg, Int.reduceToNat, Int.reduceLT, Int.reduceLE, Int.reduceGE, Int.reduceGT, Int.reduceEq]
      intro k2 hk2
      refine ACs.pn (OpenPrivate_pn B _ (by omega)) ?_
      intro d hd
      have hd := hot d hd
      subst hd
      unfold conZ
      simp (dsimp := false) only [go_sem, ↓reduceIte, Nat.reduceEqDiff, Nat.reduceLT, Nat.reduceAdd, Nat.reduceSub, Nat.reduceMul, Nat.reduceLeDiff, reduceCtorEq, Int.reduceNeg, Int.reduceToNat, Int.reduceLT, Int.reduceLE, Int.reduceGE, Int.reduceGT, Int.reduceEq]
      intro k3 hk3
      simp (dsimp := false) only [go_sem, ↓reduceIte, Nat.reduceEqDiff, Nat.reduceLT, Nat.reduceAdd, Nat.reduceSub, Nat.reduceMul, Nat.reduceLeDiff, reduceCtorEq, Int.reduceNeg, Int.reduceToNat, Int.reduceLT, Int.reduceLE, Int.reduceGE, Int.reduceGT, Int.reduceEq, hKJ, hl20]
      intro kx hkx
      have hmvx := fun k' o o' => Own.set_move hkx k' o o'
      refine ⟨okA_bytes B, by omega, by omega, fun kx' cx hkx' hcx => ?_⟩
      have hkx'' := Own.set_none hkx hkx'
      simp (dsimp := false) only [go_sem, ↓reduceIte, Nat.reduceEqDiff, Nat.reduceLT, Nat.reduceAdd, Nat.reduceSub, Nat.reduceMul, Nat.reduceLeDiff, reduceCtorEq, Int.reduceNeg, Int.reduceToNat, Int.reduceLT, Int.reduceLE, Int.reduceGE, Int.reduceGT, Int.reduceEq, wl, w14, td, wc, wa, hi, w4, tn, flat_byte, hg, wrap_u8, hmvx]
      refine ⟨hP0, by omega, by omega, by omega, by omega, fun ky hky => ?_⟩
      have hmvy := fun k' o o' => Own.set_move hky k' o o'
      refine ⟨okA_bytes B, by omega, by omega, fun ky' cy hky' hcy => ?_⟩
      have hky'' := Own.set_none hky hky'
      have qxy := none_ne hky''
      have f1 : ∀ (own : Own) o, (own.set ky' o) kx' = own kx' := fun own o => Own.set_ne _ _ (Ne.symm qxy)
      have f2 : ∀ (own : Own), (own.del kx') ky' = own ky' := fun own => Own.del_ne _ qxy
      simp (dsimp := false) only [go_sem, ↓reduceIte, Nat.reduceEqDiff, Nat.reduceLT, Nat.reduceAdd, Nat.reduceSub, Nat.reduceMul, Nat.reduceLeDiff, reduceCtorEq, Int.reduceNeg, Int.reduceToNat, Int.reduceLT, Int.reduceLE, Int.reduceGE, Int.reduceGT, Int.reduceEq, flat_byte, hg1, wrap_u8, hmvy]
      refine ⟨by omega, by omega, by omega, by omega, ?_⟩
      obtain ⟨V, hV⟩ : ∃ V, u8 ((BitVec.ofInt IntKind.u8.bits ((B.getD (4 + i) 0).toNat : Int) ^^^ BitVec.ofInt IntKind.u8.bits by_).toNat : Int) = V := ⟨_, rfl⟩
      obtain ⟨W, hW⟩ : ∃ W, u8 ((BitVec.ofInt IntKind.u8.bits ((B.getD 1 0).toNat : Int) ^^^ BitVec.ofInt IntKind.u8.bits 1).toNat : Int) = W := ⟨_, rfl⟩
      simp only [hV, hW]
      have hbV : AV.raw (.int .u8 (V.toNat : Int)) = byteA V := rfl
      have hbW : AV.raw (.int .u8 (W.toNat : Int)) = byteA W := rfl
      simp only [hbV, hbW, set_byte]
      have hVn : by_ ≠ 0 → P ≠ P.set i V := fun h0 => set_ne_self hil (by
        rw [← hV, ← hget i hil]
        exact xor_ne _ by_ (by omega) (by omega))
      have hWe : B.set 1 W = hdB 7 (!little) ++ safF little P X := by
        rw [hBe]
        refine set_hd little _ W ?_
        rw [← hW, hBe]
        exact xor_hd little _
      refine ACs.arg (pre := []) (post := [.raw (.int .u64 K)]) (rowW _ kx' cx cx _ (B.set (4 + i) V) [] ?_ ?_ ?_ ?_) ?_
      · simp only [f1, Own.set_same, List.append_nil]
      · simp
      · omega
      · omega
      refine ACs.pn (OpenSafe_pn (B.set (4 + i) V) K (by simp; omega)) ?_
      intro d hd
      have hx41 : by_ ≠ 0 → d = .tup [conZ, .raw (.int .i64 41)] := fun h0 => by
        rw [hset i V hil] at hd
        exact opS_text (by rw [List.length_set]; omega) hO (hVn h0) hd
      have hx42 : ∃ lt' y t1 t2 t3 e, d = .tup [conA lt' y t1 t2 t3, .raw (.int .i64 e)] ∧ (by_ ≠ 0 → e = 41) := by
        by_cases h0 : by_ = 0
        · obtain ⟨lt', y, t1, t2, t3, e, he⟩ := hd.form
          exact ⟨lt', y, t1, t2, t3, e, he, fun h => absurd h0 h⟩
        · exact ⟨false, [], 0, 0, 0, 41, hx41 h0, fun _ => rfl⟩
      obtain ⟨lt', y, t1, t2, t3, e, hde, he41⟩ := hx42
      clear hx41 hd
      subst hde
      unfold conA
      simp (dsimp := false) only [go_sem, ↓reduceIte, Nat.reduceEqDiff, Nat.reduceLT, Nat.reduceAdd, Nat.reduceSub, Nat.reduceMul, Nat.reduceLeDiff, reduceCtorEq, Int.reduceNeg, Int.reduceToNat, Int.reduceLT, Int.reduceLE, Int.reduceGE, Int.reduceGT, Int.reduceEq]
      refine ACs.arg (pre := []) (post := [.raw (.int .u64 K)]) (rowW _ ky' cy cy _ (B.set 1 W) [] ?_ ?_ ?_ ?_) ?_
      · simp only [f2, Own.set_same, List.append_nil]
      · simp
      · omega
      · omega
      refine ACs.pn (OpenSafe_pn (B.set 1 W) K (by simp; omega)) ?_
      intro d hd
      rw [hWe] at hd
      obtain ⟨e2, he2, rfl⟩ := opS_order hfl.1 hfl.2 hd
      unfold conZ
      simp (dsimp := false) only [go_sem, ↓reduceIte, Nat.reduceEqDiff, Nat.reduceLT, Nat.reduceAdd, Nat.reduceSub, Nat.reduceMul, Nat.reduceLeDiff, reduceCtorEq, Int.reduceNeg, Int.reduceToNat, Int.reduceLT, Int.reduceLE, Int.reduceGE, Int.reduceGT, Int.reduceEq]
      intro k5 hk5
      by_cases h0 : by_ = 0
      · simp (dsimp := false) only [go_sem, ↓reduceIte, Nat.reduceEqDiff, Nat.reduceLT, Nat.reduceAdd, Nat.reduceSub, Nat.reduceMul, Nat.reduceLeDiff, reduceCtorEq, Int.reduceNeg, Int.reduceToNat, Int.reduceLT, Int.reduceLE, Int.reduceGE, Int.reduceGT, Int.reduceEq, h0, he2]
      · have he := he41 h0
        simp (dsimp := false) only [go_sem, ↓reduceIte, Nat.reduceEqDiff, Nat.reduceLT, Nat.reduceAdd, Nat.reduceSub, Nat.reduceMul, Nat.reduceLeDiff, reduceCtorEq, Int.reduceNeg, Int.reduceToNat, Int.reduceLT, Int.reduceLE, Int.reduceGE, Int.reduceGT, Int.reduceEq, h0, he, he2]
end Go.Proofs.Ytghnigbihllnmaa.Fn
