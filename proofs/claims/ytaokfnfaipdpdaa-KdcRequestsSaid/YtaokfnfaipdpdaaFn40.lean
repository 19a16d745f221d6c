/- The law on requests to a KDC. -/
import Derived.Test.YtaokfnfaipdpdaaFn39
import Derived.Test.YtaokfnfaipdpdaaFn21
import Derived.Test.YtaokfnfaipdpdaaFn11
set_option linter.unusedVariables false
set_option linter.unusedSimpArgs false
namespace Go.Proofs.Ytaokfnfaipdpdaa.Fn
open Go Hl Sp Ty
set_option maxRecDepth 100000
def strA (s : ByteArray) : AV := .raw (.string s)
def long9B (l : List ByteArray) : Bool := l.any fun s => decide ((s.size : Int) > 100)
theorem getD_str {l : List ByteArray} {i : Nat} (h : i < l.length) : (l.map strA).getD i .any = strA (l.getD i ⟨#[]⟩) := by
  simp [List.getD_eq_getElem?_getD, h]
theorem long9_pure (l : List ByteArray) (hl : l.length ≤ 1000) : PC Try.prog 55 [.lst 1 (l.map strA)] (.raw (.bool (long9B l))) := by
  refine PC.of_ac ?_
  refine AC.of_body (M := []) Try.func55 rfl (by kernel_rfl) (Nat.le_of_ble_eq_true rfl) ?_; simp only [Try.results55, Try.ntmps55]
  simp (dsimp := false) only [go_sem, ↓reduceIte, Nat.reduceEqDiff, Nat.reduceLT, Nat.reduceAdd, Nat.reduceSub, Nat.reduceMul, Nat.reduceLeDiff, reduceCtorEq, Int.reduceNeg, Int.reduceToNat, Int.reduceLT, Int.reduceLE, Int.reduceGE, Int.reduceGT, Int.reduceEq]
  refine AW.loopJ (M := []) (X := Nat) (fun i => ⟨16, tmL [(0, .lst 1 (l.map strA)), (3, .raw (.int .i64 i))], noOwn⟩)
    (fun i => i ≤ l.length ∧ ∀ j < i, ¬ ((l.getD j ⟨#[]⟩).size : Int) > 100) (fun i => l.length - i) 0 ⟨Nat.zero_le _, fun j h => absurd h (by omega)⟩ ?_ ?_
  · (refine Ghost.of ?_ (fun _ _ h => by cases h); (repeat' (first | exact all_nil | refine all_cons ?_ ?_)) <;> (first | (simp (dsimp := false) only [go_sem, ↓reduceIte, Nat.reduceEqDiff, Nat.reduceLT, Nat.reduceAdd, Nat.reduceSub, Nat.reduceMul, Nat.reduceLeDiff, reduceCtorEq, Int.reduceNeg, Int.reduceToNat, Int.reduceLT, Int.reduceLE, Int.reduceGE, Int.reduceGT, Int.reduceEq]; done) | (simp (dsimp := false) only [go_sem, ↓reduceIte, Nat.reduceEqDiff, Nat.reduceLT, Nat.reduceAdd, Nat.reduceSub, Nat.reduceMul, Nat.reduceLeDiff, reduceCtorEq, Int.reduceNeg, Int.reduceToNat, Int.reduceLT, Int.reduceLE, Int.reduceGE, Int.reduceGT, Int.reduceEq]; rfl)))
  rintro i ⟨hi, hne⟩
  have hL : (l.map strA).length = l.length := List.length_map ..
  by_cases hlt : (i : Int) < (l.map strA).length
  · have e1 : IntKind.i64.wrap ((i : Int) + 1) = ((i + 1 : Nat) : Int) := by rw [wrap_i64 (by omega) (by omega)]; omega
    have g : (l.map strA).getD i .any = .raw (.string (l.getD i ⟨#[]⟩)) := getD_str (by omega)
    have hmem : l.getD i ⟨#[]⟩ ∈ l := by
      rw [List.getD_eq_getElem?_getD, List.getElem?_eq_getElem (by omega)]
      exact List.getElem_mem _
    obtain ⟨y, hy⟩ : ∃ y, l.getD i ⟨#[]⟩ = y := ⟨_, rfl⟩
    rw [hy] at g hmem
    by_cases hx : (y.size : Int) > 100
    · have hB : long9B l = true := List.any_eq_true.2 ⟨y, hmem, by simpa using hx⟩
      simp (dsimp := false) only [go_sem, ↓reduceIte, Nat.reduceEqDiff, Nat.reduceLT, Nat.reduceAdd, Nat.reduceSub, Nat.reduceMul, Nat.reduceLeDiff, reduceCtorEq, Int.reduceNeg, Int.reduceToNat, Int.reduceLT, Int.reduceLE, Int.reduceGE, Int.reduceGT, Int.reduceEq, hlt, g, hx]
      (try refine ⟨by omega, ?_⟩)
      rw [hB]
    · simp (dsimp := false) only [go_sem, ↓reduceIte, Nat.reduceEqDiff, Nat.reduceLT, Nat.reduceAdd, Nat.reduceSub, Nat.reduceMul, Nat.reduceLeDiff, reduceCtorEq, Int.reduceNeg, Int.reduceToNat, Int.reduceLT, Int.reduceLE, Int.reduceGE, Int.reduceGT, Int.reduceEq, hlt, g, hx, e1]
      (try refine ⟨by omega, ?_⟩)
      refine ⟨i + 1, ⟨by omega, fun j hj => ?_⟩, ?_, by omega⟩
      · by_cases hji : j = i
        · rw [hji, hy]; exact hx
        · exact hne j (by omega)
      · (refine Ghost.of ?_ (fun _ _ h => by cases h); (repeat' (first | exact all_nil | refine all_cons ?_ ?_)) <;> (first | (simp (dsimp := false) only [go_sem, ↓reduceIte, Nat.reduceEqDiff, Nat.reduceLT, Nat.reduceAdd, Nat.reduceSub, Nat.reduceMul, Nat.reduceLeDiff, reduceCtorEq, Int.reduceNeg, Int.reduceToNat, Int.reduceLT, Int.reduceLE, Int.reduceGE, Int.reduceGT, Int.reduceEq]; done) | (simp (dsimp := false) only [go_sem, ↓reduceIte, Nat.reduceEqDiff, Nat.reduceLT, Nat.reduceAdd, Nat.reduceSub, Nat.reduceMul, Nat.reduceLeDiff, reduceCtorEq, Int.reduceNeg, Int.reduceToNat, Int.reduceLT, Int.reduceLE, Int.reduceGE, Int.reduceGT, Int.reduceEq]; rfl)))
  · have hB : long9B l = false := by
      rw [Bool.eq_false_iff]
      intro h
      obtain ⟨y, hy, hs⟩ := List.any_eq_true.1 h
      obtain ⟨j, hj, e⟩ := List.mem_iff_getElem.1 hy
      refine absurd ?_ (hne j (by omega))
      rw [List.getD_eq_getElem?_getD, List.getElem?_eq_getElem hj]
      simp only [Option.getD_some, e]
      simpa using hs
    simp (dsimp := false) only [go_sem, ↓reduceIte, Nat.reduceEqDiff, Nat.reduceLT, Nat.reduceAdd, Nat.reduceSub, Nat.reduceMul, Nat.reduceLeDiff, reduceCtorEq, Int.reduceNeg, Int.reduceToNat, Int.reduceLT, Int.reduceLE, Int.reduceGE, Int.reduceGT, Int.reduceEq, hlt]
    rw [hB]
theorem awake9_pure : PC Try.prog 54 [] (.raw (.bool true)) := by
  refine PC.of_ac ?_
  have he := reqEncode_pure true ⟨#[97, 110, 110]⟩ ⟨#[]⟩ ⟨#[65, 84, 72]⟩ 0 0 ⟨#[109, 97, 105, 108]⟩ ⟨#[]⟩ (by decide) (by decide) (by decide) (by decide) (by decide)
  have hU := User_pure 0 (by decide) (by decide)
  rw [show prinA (userP 0) = .st [.raw (.string ⟨#[97, 110, 110]⟩), .raw (.string ⟨#[]⟩), .raw (.string ⟨#[65, 84, 72]⟩)] by rfl] at hU
  have e1 : reqE true ⟨#[97, 110, 110]⟩ ⟨#[]⟩ ⟨#[65, 84, 72]⟩ 0 0 ⟨#[109, 97, 105, 108]⟩ ⟨#[]⟩ = .tup [.lst 1 ([4, 3, 97, 110, 110, 0, 0, 65, 84, 72, 0, 0, 0, 0, 0, 0, 109, 97, 105, 108, 0, 0].map byteA), .raw (.int .i64 0)] := by
    have c1 : reqChk true ⟨#[97, 110, 110]⟩ ⟨#[]⟩ ⟨#[65, 84, 72]⟩ 0 0 ⟨#[109, 97, 105, 108]⟩ ⟨#[]⟩ = 0 := by decide
    have c2 : reqB true ⟨#[97, 110, 110]⟩ ⟨#[]⟩ ⟨#[65, 84, 72]⟩ 0 0 ⟨#[109, 97, 105, 108]⟩ ⟨#[]⟩ = [4, 3, 97, 110, 110, 0, 0, 65, 84, 72, 0, 0, 0, 0, 0, 0, 109, 97, 105, 108, 0, 0] := by decide
    rw [reqE, c1, if_pos rfl, c2]
  rw [e1] at he
  unfold reqA at he
  refine AC.of_body (M := []) Try.func54 rfl (by kernel_rfl) (Nat.le_of_ble_eq_true rfl) ?_; simp only [Try.results54, Try.ntmps54]
  simp (dsimp := false) only [go_sem, ↓reduceIte, Nat.reduceEqDiff, Nat.reduceLT, Nat.reduceAdd, Nat.reduceSub, Nat.reduceMul, Nat.reduceLeDiff, reduceCtorEq, Int.reduceNeg, Int.reduceToNat, Int.reduceLT, Int.reduceLE, Int.reduceGE, Int.reduceGT, Int.reduceEq]
  refine ACs.pure hU ?_
  simp (dsimp := false) only [go_sem, ↓reduceIte, Nat.reduceEqDiff, Nat.reduceLT, Nat.reduceAdd, Nat.reduceSub, Nat.reduceMul, Nat.reduceLeDiff, reduceCtorEq, Int.reduceNeg, Int.reduceToNat, Int.reduceLT, Int.reduceLE, Int.reduceGE, Int.reduceGT, Int.reduceEq]
  refine ACs.pure he ?_
  have hb : byteA 4 = .raw (.int .u8 4) := rfl
  have hb' : byteA 3 = .raw (.int .u8 3) := rfl
  simp (dsimp := false) only [go_sem, ↓reduceIte, Nat.reduceEqDiff, Nat.reduceLT, Nat.reduceAdd, Nat.reduceSub, Nat.reduceMul, Nat.reduceLeDiff, reduceCtorEq, Int.reduceNeg, Int.reduceToNat, Int.reduceLT, Int.reduceLE, Int.reduceGE, Int.reduceGT, Int.reduceEq, hb, hb']
theorem TkOk.size' {n i r : ByteArray} {ad k li is : Int} {s t : ByteArray} (h : TkOk n i r ad k li is s t) : n.size ≤ 39 ∧ i.size ≤ 39 ∧ r.size ≤ 39 ∧ s.size ≤ 39 ∧ t.size ≤ 39 := by
  have a := validB_size h.1
  have b := nameB_size h.2.1
  have c := instB_size h.2.2.1
  omega
theorem request9_det (bs : List UInt8) (lt : Bool) (hb : bs.length ≤ 140737488355328) : ∃ d, PC Try.prog 56 [.lst 1 (bs.map byteA), .raw (.bool lt)] d ∧ ∃ n i r tm li s t, d = reqA lt n i r tm li s t ∧ reqOk lt n i r tm li s t ∧ n.size ≤ 39 ∧ i.size ≤ 39 ∧ r.size ≤ 39 ∧ s.size ≤ 39 ∧ t.size ≤ 39 := by
  obtain ⟨ad_, hA, lt', n, i, r, ad, k, li, is, s, t, hd, hok⟩ := Ticket_det bs hb
  have hz := hok.size'
  have hok' : reqOk lt n i r is li s t := by
    obtain ⟨h1, h2, h3, h4, h5, h6, h7, h8⟩ := hok
    unfold reqOk
    rw [reqChk, if_neg (by simp [h1, h2, h3]), if_neg (by omega)]
  refine ⟨reqA lt n i r is li s t, ?_, n, i, r, is, li, s, t, rfl, hok', hz⟩
  subst hd
  refine PC.of_ac ?_
  unfold ticketA at hA
  unfold reqA
  refine AC.of_body (M := []) Try.func56 rfl (by kernel_rfl) (Nat.le_of_ble_eq_true rfl) ?_; simp only [Try.results56, Try.ntmps56]
  simp (dsimp := false) only [go_sem, ↓reduceIte, Nat.reduceEqDiff, Nat.reduceLT, Nat.reduceAdd, Nat.reduceSub, Nat.reduceMul, Nat.reduceLeDiff, reduceCtorEq, Int.reduceNeg, Int.reduceToNat, Int.reduceLT, Int.reduceLE, Int.reduceGE, Int.reduceGT, Int.reduceEq]
  intro k1 hk1
  refine ACs.pure hA ?_
  simp (dsimp := false) only [go_sem, ↓reduceIte, Nat.reduceEqDiff, Nat.reduceLT, Nat.reduceAdd, Nat.reduceSub, Nat.reduceMul, Nat.reduceLeDiff, reduceCtorEq, Int.reduceNeg, Int.reduceToNat, Int.reduceLT, Int.reduceLE, Int.reduceGE, Int.reduceGT, Int.reduceEq]
  intro k2 hk2
  have q1 := none_ne hk2
  have a1 : ∀ (own : Own) o, (own.set k2 o) k1 = own k1 := fun own o => Own.set_ne _ _ (Ne.symm q1)
  have a2 : ∀ (own : Own) o, (own.set k1 o) k2 = own k2 := fun own o => Own.set_ne _ _ q1
  (try simp (dsimp := false) only [go_sem, ↓reduceIte, Nat.reduceEqDiff, Nat.reduceLT, Nat.reduceAdd, Nat.reduceSub, Nat.reduceMul, Nat.reduceLeDiff, reduceCtorEq, Int.reduceNeg, Int.reduceToNat, Int.reduceLT, Int.reduceLE, Int.reduceGE, Int.reduceGT, Int.reduceEq, a1, a2])
theorem reqB_length (lt : Bool) (n i r : ByteArray) (tm li : Int) (s t : ByteArray) : (reqB lt n i r tm li s t).length ≤ n.size + i.size + r.size + s.size + t.size + 20 := by
  rw [reqB, List.length_append, hdB_length, reqF_length]
  omega
set_option maxHeartbeats 8000000 in
theorem KdcRequests_pc (lt : Bool) (n i r : ByteArray) (tm li : Int) (s t : ByteArray) (bs : List UInt8) (little : Bool) :
    PC Try.prog 12 [reqA lt n i r tm li s t, .lst 1 (bs.map byteA), .raw (.bool little)] (.raw (.bool true)) := by
  refine PC.of_ac ?_
  have hlong := long9_pure [n, i, r, s, t] (by simp)
  simp only [List.map_cons, List.map_nil, strA] at hlong
  unfold reqA
  refine AC.of_body (M := []) Try.func12 rfl (by kernel_rfl) (Nat.le_of_ble_eq_true rfl) ?_; simp only [Try.results12, Try.ntmps12]
  simp (dsimp := false) only [go_sem, ↓reduceIte, Nat.reduceEqDiff, Nat.reduceLT, Nat.reduceAdd, Nat.reduceSub, Nat.reduceMul, Nat.reduceLeDiff, reduceCtorEq, Int.reduceNeg, Int.reduceToNat, Int.reduceLT, Int.reduceLE, Int.reduceGE, Int.reduceGT, Int.reduceEq]
  refine ACs.pure awake9_pure ?_
  simp (dsimp := false) only [go_sem, ↓reduceIte, Nat.reduceEqDiff, Nat.reduceLT, Nat.reduceAdd, Nat.reduceSub, Nat.reduceMul, Nat.reduceLeDiff, reduceCtorEq, Int.reduceNeg, Int.reduceToNat, Int.reduceLT, Int.reduceLE, Int.reduceGE, Int.reduceGT, Int.reduceEq]
  refine ACs.pure hlong ?_
  rcases Bool.eq_false_or_eq_true (long9B [n, i, r, s, t]) with hl | hl
  · simp (dsimp := false) only [go_sem, ↓reduceIte, Nat.reduceEqDiff, Nat.reduceLT, Nat.reduceAdd, Nat.reduceSub, Nat.reduceMul, Nat.reduceLeDiff, reduceCtorEq, Int.reduceNeg, Int.reduceToNat, Int.reduceLT, Int.reduceLE, Int.reduceGE, Int.reduceGT, Int.reduceEq, hl]
  by_cases h2 : (bs.length : Int) > 40
  · simp (dsimp := false) only [go_sem, ↓reduceIte, Nat.reduceEqDiff, Nat.reduceLT, Nat.reduceAdd, Nat.reduceSub, Nat.reduceMul, Nat.reduceLeDiff, reduceCtorEq, Int.reduceNeg, Int.reduceToNat, Int.reduceLT, Int.reduceLE, Int.reduceGE, Int.reduceGT, Int.reduceEq, hl, h2]
  simp (dsimp := false) only [go_sem, ↓reduceIte, Nat.reduceEqDiff, Nat.reduceLT, Nat.reduceAdd, Nat.reduceSub, Nat.reduceMul, Nat.reduceLeDiff, reduceCtorEq, Int.reduceNeg, Int.reduceToNat, Int.reduceLT, Int.reduceLE, Int.reduceGE, Int.reduceGT, Int.reduceEq, hl, h2]
  have hz' : n.size ≤ 100 ∧ i.size ≤ 100 ∧ r.size ≤ 100 ∧ s.size ≤ 100 ∧ t.size ≤ 100 := by
    simp only [long9B, List.any_cons, List.any_nil, Bool.or_eq_false_iff, decide_eq_false_iff_not] at hl
    omega
  obtain ⟨ad_, hA, n', i', r', tm', li', s', t', hd, hok, hz⟩ := request9_det bs little (by omega)
  unfold reqA at hd
  refine AW.loopJ (M := []) (X := Nat) (fun j => ⟨83, tmL [(1, .lst 1 (bs.map byteA)), (2, .raw (.bool little)), (3, .ref (.st [.raw (.bool lt), .raw (.string n), .raw (.string i), .raw (.string r), .raw (.int .i64 tm), .raw (.int .i64 li), .raw (.string s), .raw (.string t)])), (7, .raw (.int .i64 j))], noOwn⟩)
    (fun j => j ≤ 2) (fun j => 2 - j) 0 (by decide) ?_ ?_
  · (refine Ghost.same ?_; (repeat' (first | exact all_nil | refine all_cons ?_ ?_)) <;> (first | (simp (dsimp := false) only [go_sem, ↓reduceIte, Nat.reduceEqDiff, Nat.reduceLT, Nat.reduceAdd, Nat.reduceSub, Nat.reduceMul, Nat.reduceLeDiff, reduceCtorEq, Int.reduceNeg, Int.reduceToNat, Int.reduceLT, Int.reduceLE, Int.reduceGE, Int.reduceGT, Int.reduceEq]; done) | (simp (dsimp := false) only [go_sem, ↓reduceIte, Nat.reduceEqDiff, Nat.reduceLT, Nat.reduceAdd, Nat.reduceSub, Nat.reduceMul, Nat.reduceLeDiff, reduceCtorEq, Int.reduceNeg, Int.reduceToNat, Int.reduceLT, Int.reduceLE, Int.reduceGE, Int.reduceGT, Int.reduceEq]; rfl)))
  intro j hj
  by_cases hj2 : (j : Int) < 2
  · have w1 : IntKind.i64.wrap ((j : Int) + 1) = ((j + 1 : Nat) : Int) := by rw [wrap_i64 (by omega) (by omega)]; omega
    obtain ⟨LT, N, I, R, TM, LI, S, T, hX, hN⟩ : ∃ (LT : Bool) (N I R : ByteArray) (TM LI : Int) (S T : ByteArray), [AV.st [.raw (.bool lt), .raw (.string n), .raw (.string i), .raw (.string r), .raw (.int .i64 tm), .raw (.int .i64 li), .raw (.string s), .raw (.string t)], AV.st [.raw (.bool little), .raw (.string n'), .raw (.string i'), .raw (.string r'), .raw (.int .i64 tm'), .raw (.int .i64 li'), .raw (.string s'), .raw (.string t')]].getD j .any = AV.st [.raw (.bool LT), .raw (.string N), .raw (.string I), .raw (.string R), .raw (.int .i64 TM), .raw (.int .i64 LI), .raw (.string S), .raw (.string T)] ∧ N.size ≤ 100 ∧ I.size ≤ 100 ∧ R.size ≤ 100 ∧ S.size ≤ 100 ∧ T.size ≤ 100 := by
      match j, (show j < 2 by omega) with
      | 0, _ => exact ⟨_, _, _, _, _, _, _, _, rfl, by omega, by omega, by omega, by omega, by omega⟩
      | 1, _ => exact ⟨_, _, _, _, _, _, _, _, rfl, by omega, by omega, by omega, by omega, by omega⟩
    have hE1 := reqEncode_pure LT N I R TM LI S T (by omega) (by omega) (by omega) (by omega) (by omega)
    have hE2 := rreqEncode_pure LT N I R TM LI S T (by omega) (by omega) (by omega) (by omega) (by omega)
    have hbl := reqB_length LT N I R TM LI S T
    have hdc : ∀ d, reqChk LT N I R TM LI S T = 0 → reqDec (reqB LT N I R TM LI S T) d → d = .tup [reqA LT N I R TM LI S T, .raw (.int .i64 0)] := fun d h0 h => h.of ⟨h0, rfl⟩
    unfold reqA reqE at hE1 hE2
    obtain ⟨B, hB⟩ : ∃ B, reqB LT N I R TM LI S T = B := ⟨_, rfl⟩
    rw [hB] at hE1 hE2 hbl hdc
    obtain ⟨E, hE⟩ : ∃ E, reqChk LT N I R TM LI S T = E := ⟨_, rfl⟩
    rw [hE] at hE1 hE2 hdc
    simp (dsimp := false) only [go_sem, ↓reduceIte, Nat.reduceEqDiff, Nat.reduceLT, Nat.reduceAdd, Nat.reduceSub, Nat.reduceMul, Nat.reduceLeDiff, reduceCtorEq, Int.reduceNeg, Int.reduceToNat, Int.reduceLT, Int.reduceLE, Int.reduceGE, Int.reduceGT, Int.reduceEq, hj2]
    refine AW.draw (M := []) [.v, .v, .v, .c (ad_), .v, .v, .v, .v, .e, .e] mixed (by kernel_rfl) ?_
    subst hd
    simp (dsimp := false) only [go_sem, ↓reduceIte, Nat.reduceEqDiff, Nat.reduceLT, Nat.reduceAdd, Nat.reduceSub, Nat.reduceMul, Nat.reduceLeDiff, reduceCtorEq, Int.reduceNeg, Int.reduceToNat, Int.reduceLT, Int.reduceLE, Int.reduceGE, Int.reduceGT, Int.reduceEq, hX]
    refine ⟨VSem.call rfl rfl hA, ?_⟩
    refine ⟨by omega, ?_⟩
    intro k1 hk1
    refine ACs.pure hE1 ?_
    simp (dsimp := false) only [go_sem, ↓reduceIte, Nat.reduceEqDiff, Nat.reduceLT, Nat.reduceAdd, Nat.reduceSub, Nat.reduceMul, Nat.reduceLeDiff, reduceCtorEq, Int.reduceNeg, Int.reduceToNat, Int.reduceLT, Int.reduceLE, Int.reduceGE, Int.reduceGT, Int.reduceEq]
    refine ACs.pure hE2 ?_
    by_cases h0 : E = 0
    · rw [if_pos h0]
      simp (dsimp := false) only [go_sem, ↓reduceIte, Nat.reduceEqDiff, Nat.reduceLT, Nat.reduceAdd, Nat.reduceSub, Nat.reduceMul, Nat.reduceLeDiff, reduceCtorEq, Int.reduceNeg, Int.reduceToNat, Int.reduceLT, Int.reduceLE, Int.reduceGE, Int.reduceGT, Int.reduceEq, h0, bytes_eq]
      refine ACs.pn (reqDecode_pn B (by omega)) ?_
      intro d hd
      have hd := hdc d h0 hd
      subst hd
      unfold reqA
      simp (dsimp := false) only [go_sem, ↓reduceIte, Nat.reduceEqDiff, Nat.reduceLT, Nat.reduceAdd, Nat.reduceSub, Nat.reduceMul, Nat.reduceLeDiff, reduceCtorEq, Int.reduceNeg, Int.reduceToNat, Int.reduceLT, Int.reduceLE, Int.reduceGE, Int.reduceGT, Int.reduceEq]
      intro k2 hk2
      have q1 := none_ne hk2
      have q2 : ∀ (own : Own) o, (own.set k2 o) k1 = own k1 := fun own o => Own.set_ne _ _ (Ne.symm q1)
      have q3 : ∀ (own : Own) o, (own.set k1 o) k2 = own k2 := fun own o => Own.set_ne _ _ q1
      simp (dsimp := false) only [go_sem, ↓reduceIte, Nat.reduceEqDiff, Nat.reduceLT, Nat.reduceAdd, Nat.reduceSub, Nat.reduceMul, Nat.reduceLeDiff, reduceCtorEq, Int.reduceNeg, Int.reduceToNat, Int.reduceLT, Int.reduceLE, Int.reduceGE, Int.reduceGT, Int.reduceEq, q2, q3, w1]
      refine ⟨j + 1, by omega, ?_, by omega⟩
      (refine Ghost.of ?_ (fun _ _ h => by cases h); (repeat' (first | exact all_nil | refine all_cons ?_ ?_)) <;> (first | (simp (dsimp := false) only [go_sem, ↓reduceIte, Nat.reduceEqDiff, Nat.reduceLT, Nat.reduceAdd, Nat.reduceSub, Nat.reduceMul, Nat.reduceLeDiff, reduceCtorEq, Int.reduceNeg, Int.reduceToNat, Int.reduceLT, Int.reduceLE, Int.reduceGE, Int.reduceGT, Int.reduceEq]; done) | (simp (dsimp := false) only [go_sem, ↓reduceIte, Nat.reduceEqDiff, Nat.reduceLT, Nat.reduceAdd, Nat.reduceSub, Nat.reduceMul, Nat.reduceLeDiff, reduceCtorEq, Int.reduceNeg, Int.reduceToNat, Int.reduceLT, Int.reduceLE, Int.reduceGE, Int.reduceGT, Int.reduceEq]; rfl)))
    · rw [if_neg h0]
      have hbn : bytesOf [] = some [] := rfl
      simp (dsimp := false) only [go_sem, ↓reduceIte, Nat.reduceEqDiff, Nat.reduceLT, Nat.reduceAdd, Nat.reduceSub, Nat.reduceMul, Nat.reduceLeDiff, reduceCtorEq, Int.reduceNeg, Int.reduceToNat, Int.reduceLT, Int.reduceLE, Int.reduceGE, Int.reduceGT, Int.reduceEq, h0, bytes_eq, hbn, w1]
      refine ⟨j + 1, by omega, ?_, by omega⟩
      (refine Ghost.of ?_ (fun _ _ h => by cases h); (repeat' (first | exact all_nil | refine all_cons ?_ ?_)) <;> (first | (simp (dsimp := false) only [go_sem, ↓reduceIte, Nat.reduceEqDiff, Nat.reduceLT, Nat.reduceAdd, Nat.reduceSub, Nat.reduceMul, Nat.reduceLeDiff, reduceCtorEq, Int.reduceNeg, Int.reduceToNat, Int.reduceLT, Int.reduceLE, Int.reduceGE, Int.reduceGT, Int.reduceEq]; done) | (simp (dsimp := false) only [go_sem, ↓reduceIte, Nat.reduceEqDiff, Nat.reduceLT, Nat.reduceAdd, Nat.reduceSub, Nat.reduceMul, Nat.reduceLeDiff, reduceCtorEq, Int.reduceNeg, Int.reduceToNat, Int.reduceLT, Int.reduceLE, Int.reduceGE, Int.reduceGT, Int.reduceEq]; rfl)))
  · simp (dsimp := false) only [go_sem, ↓reduceIte, Nat.reduceEqDiff, Nat.reduceLT, Nat.reduceAdd, Nat.reduceSub, Nat.reduceMul, Nat.reduceLeDiff, reduceCtorEq, Int.reduceNeg, Int.reduceToNat, Int.reduceLT, Int.reduceLE, Int.reduceGE, Int.reduceGT, Int.reduceEq, hj2]
end Go.Proofs.Ytaokfnfaipdpdaa.Fn
