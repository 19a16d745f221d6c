/- Headers of messages. -/
import Derived.Test.YtghnigbihllnmaaGreatFn31
import Derived.Test.YtghnigbihllnmaaGreatFn27
import Derived.Test.YtghnigbihllnmaaGreatFn25
import Derived.Test.YtghnigbihllnmaaGreatFn13
set_option linter.unusedVariables false
set_option linter.unusedSimpArgs false
namespace Go.Proofs.YtghnigbihllnmaaGreat.Fn
open Go Hl Sp Ty
set_option maxRecDepth 100000
def iA (z : Int) : AV := .raw (.int .i64 z)
theorem wrap_u8_id {x : Int} (h : 0 ≤ x) (h' : x ≤ 255) : IntKind.u8.wrap x = x := by rw [wrap_u8, u8_toNat]; omega
theorem kindB_iff (k : Int) : kindB k = true ↔ 1 ≤ k ∧ k ≤ 10 := by unfold kindB; simp
/-- The bytes of a header. -/
def hdB (kind : Int) (lt : Bool) : List UInt8 := [4, u8 (2 * kind + flagZ lt)]
theorem hdB_length (kind : Int) (lt : Bool) : (hdB kind lt).length = 2 := rfl
theorem flagZ_range (lt : Bool) : 0 ≤ flagZ lt ∧ flagZ lt ≤ 1 := by cases lt <;> decide
theorem hdB_bytes (kind : Int) (lt : Bool) (hk : 1 ≤ kind ∧ kind ≤ 10) : AV.lst 1 [.raw (.int .u8 4), .raw (.int .u8 (2 * kind + flagZ lt))] = .lst 1 ((hdB kind lt).map byteA) := by
  have := flagZ_range lt
  have e : ((u8 (2 * kind + flagZ lt)).toNat : Int) = 2 * kind + flagZ lt := by rw [u8_toNat]; omega
  simp only [hdB, List.map_cons, List.map_nil, byteA, e]
  rfl
theorem isType_pure (n : Int) : PC Tryz.prog 169 [.raw (.int .i64 n)] (.raw (.bool (kindB n))) := by
  refine PC.of_ac ?_
  refine AC.of_body (M := []) Tryz.func169 rfl (by kernel_rfl) (Nat.le_of_ble_eq_true rfl) ?_; simp only [Tryz.results169, Tryz.ntmps169]
  unfold kindB
  by_cases h : n ≥ 1
  · simp (dsimp := false) only [go_sem, ↓reduceIte, Nat.reduceEqDiff, Nat.reduceLT, Nat.reduceAdd, Nat.reduceSub, Nat.reduceMul, Nat.reduceLeDiff, reduceCtorEq, Int.reduceNeg, Int.reduceToNat, Int.reduceLT, Int.reduceLE, Int.reduceGE, Int.reduceGT, Int.reduceEq, h]
  · simp (dsimp := false) only [go_sem, ↓reduceIte, Nat.reduceEqDiff, Nat.reduceLT, Nat.reduceAdd, Nat.reduceSub, Nat.reduceMul, Nat.reduceLeDiff, reduceCtorEq, Int.reduceNeg, Int.reduceToNat, Int.reduceLT, Int.reduceLE, Int.reduceGE, Int.reduceGT, Int.reduceEq, h]
theorem hdPut_pure (kind : Int) (lt : Bool) (hk : 1 ≤ kind ∧ kind ≤ 10) : PC Tryz.prog 120 [.raw (.int .i64 kind), .raw (.bool lt)] (.lst 1 ((hdB kind lt).map byteA)) := by
  rw [← hdB_bytes kind lt hk]
  have hT := isType_pure kind
  rw [(kindB_iff kind).2 hk] at hT
  have w1 : IntKind.i64.wrap (2 * kind) = 2 * kind := wrap_i64 (by omega) (by omega)
  have w2 : IntKind.u8.wrap (2 * kind) = 2 * kind := wrap_u8_id (by omega) (by omega)
  have w3 : IntKind.u8.wrap (2 * kind + 1) = 2 * kind + 1 := wrap_u8_id (by omega) (by omega)
  have f0 : flagZ false = 0 := rfl
  have f1 : flagZ true = 1 := rfl
  refine PC.of_ac ?_
  refine AC.of_body (M := []) Tryz.func120 rfl (by kernel_rfl) (Nat.le_of_ble_eq_true rfl) ?_; simp only [Tryz.results120, Tryz.ntmps120]
  simp (dsimp := false) only [go_sem, ↓reduceIte, Nat.reduceEqDiff, Nat.reduceLT, Nat.reduceAdd, Nat.reduceSub, Nat.reduceMul, Nat.reduceLeDiff, reduceCtorEq, Int.reduceNeg, Int.reduceToNat, Int.reduceLT, Int.reduceLE, Int.reduceGE, Int.reduceGT, Int.reduceEq]
  refine ACs.pure hT ?_
  cases lt
  · simp (dsimp := false) only [go_sem, ↓reduceIte, Nat.reduceEqDiff, Nat.reduceLT, Nat.reduceAdd, Nat.reduceSub, Nat.reduceMul, Nat.reduceLeDiff, reduceCtorEq, Int.reduceNeg, Int.reduceToNat, Int.reduceLT, Int.reduceLE, Int.reduceGE, Int.reduceGT, Int.reduceEq, w1, w2, w3, f0, Int.add_zero]
  · simp (dsimp := false) only [go_sem, ↓reduceIte, Nat.reduceEqDiff, Nat.reduceLT, Nat.reduceAdd, Nat.reduceSub, Nat.reduceMul, Nat.reduceLeDiff, reduceCtorEq, Int.reduceNeg, Int.reduceToNat, Int.reduceLT, Int.reduceLE, Int.reduceGE, Int.reduceGT, Int.reduceEq, w1, w2, w3, f1]
theorem rhdPut_pure (kind : Int) (lt : Bool) (hk : 1 ≤ kind ∧ kind ≤ 10) : PC Tryz.prog 61 [.raw (.int .i64 kind), .raw (.bool lt)] (.lst 1 ((hdB kind lt).map byteA)) := by
  rw [← hdB_bytes kind lt hk]
  have w1 : IntKind.i64.wrap (2 * kind) = 2 * kind := wrap_i64 (by omega) (by omega)
  have w2 : IntKind.u8.wrap (2 * kind) = 2 * kind := wrap_u8_id (by omega) (by omega)
  have w3 : IntKind.i64.wrap (2 * kind + 1) = 2 * kind + 1 := wrap_i64 (by omega) (by omega)
  have w4 : IntKind.u8.wrap (2 * kind + 1) = 2 * kind + 1 := wrap_u8_id (by omega) (by omega)
  have f0 : flagZ false = 0 := rfl
  have f1 : flagZ true = 1 := rfl
  have c1 : ¬ kind < 1 := by omega
  have c2 : ¬ kind > 10 := by omega
  refine PC.of_ac ?_
  refine AC.of_body (M := []) Tryz.func61 rfl (by kernel_rfl) (Nat.le_of_ble_eq_true rfl) ?_; simp only [Tryz.results61, Tryz.ntmps61]
  cases lt
  · simp (dsimp := false) only [go_sem, ↓reduceIte, Nat.reduceEqDiff, Nat.reduceLT, Nat.reduceAdd, Nat.reduceSub, Nat.reduceMul, Nat.reduceLeDiff, reduceCtorEq, Int.reduceNeg, Int.reduceToNat, Int.reduceLT, Int.reduceLE, Int.reduceGE, Int.reduceGT, Int.reduceEq, c1, c2, w1, w2, w3, w4, f0, Int.add_zero]
  · simp (dsimp := false) only [go_sem, ↓reduceIte, Nat.reduceEqDiff, Nat.reduceLT, Nat.reduceAdd, Nat.reduceSub, Nat.reduceMul, Nat.reduceLeDiff, reduceCtorEq, Int.reduceNeg, Int.reduceToNat, Int.reduceLT, Int.reduceLE, Int.reduceGE, Int.reduceGT, Int.reduceEq, c1, c2, w1, w2, w3, w4, f1]
/-- What Read reads. -/
def hdR (b : List UInt8) : Int × Bool × Int :=
  if (b.length : Int) < 2 then (0, false, 101) else if ((b.getD 0 0).toNat : Int) ≠ 4 then (0, false, 39)
  else if kindB (((b.getD 1 0).toNat : Int).tdiv 2) = false then (0, false, 40) else (((b.getD 1 0).toNat : Int).tdiv 2, decide (((b.getD 1 0).toNat : Int).tmod 2 = 1), 0)
def hdIs (b : List UInt8) (ks : List Int) : Bool × Int := if (hdR b).2.2 ≠ 0 then (false, (hdR b).2.2) else if (hdR b).1 ∈ ks then ((hdR b).2.1, 0) else (false, 40)
theorem hdRead_pure (b : List UInt8) (hn : b.length ≤ 140737488355000) : PC Tryz.prog 159 [.lst 1 (b.map byteA)] (.tup [.raw (.int .i64 (hdR b).1), .raw (.bool (hdR b).2.1), .raw (.int .i64 (hdR b).2.2)]) := by
  refine PC.of_ac ?_
  unfold hdR
  refine AC.of_body (M := []) Tryz.func159 rfl (by kernel_rfl) (Nat.le_of_ble_eq_true rfl) ?_; simp only [Tryz.results159, Tryz.ntmps159]
  by_cases h0 : (b.length : Int) < 2
  · rw [if_pos h0]
    simp (dsimp := false) only [go_sem, ↓reduceIte, Nat.reduceEqDiff, Nat.reduceLT, Nat.reduceAdd, Nat.reduceSub, Nat.reduceMul, Nat.reduceLeDiff, reduceCtorEq, Int.reduceNeg, Int.reduceToNat, Int.reduceLT, Int.reduceLE, Int.reduceGE, Int.reduceGT, Int.reduceEq, h0]
  rw [if_neg h0]
  obtain ⟨c0, e0⟩ : ∃ c, b.getD 0 0 = c := ⟨_, rfl⟩
  obtain ⟨c1, e1⟩ : ∃ c, b.getD 1 0 = c := ⟨_, rfl⟩
  have g0 : (b.map byteA).getD 0 .any = .raw (.int .u8 (c0.toNat)) := by rw [getD_byte (by omega), e0]; rfl
  have g1 : (b.map byteA).getD 1 .any = .raw (.int .u8 (c1.toNat)) := by rw [getD_byte (by omega), e1]; rfl
  rw [e0, e1]
  have l0 : 0 < (b.length : Int) := by omega
  have l1 : 1 < (b.length : Int) := by omega
  by_cases h1 : (c0.toNat : Int) = 4
  · rw [if_neg (by omega)]
    have hr : 0 ≤ (c1.toNat : Int) ∧ (c1.toNat : Int) ≤ 255 := ⟨by omega, by have := c1.toNat_lt; omega⟩
    have d0 : (c1.toNat : Int).tdiv 2 = (c1.toNat : Int) / 2 := Int.tdiv_eq_ediv_of_nonneg hr.1
    obtain ⟨q, hq⟩ : ∃ q, (c1.toNat : Int).tdiv 2 = q := ⟨_, rfl⟩
    have w1 : IntKind.u8.wrap q = q := wrap_u8_id (by omega) (by omega)
    have w2 : IntKind.i64.wrap q = q := wrap_i64 (by omega) (by omega)
    rw [hq]
    have hT := isType_pure q
    simp (dsimp := false) only [go_sem, ↓reduceIte, Nat.reduceEqDiff, Nat.reduceLT, Nat.reduceAdd, Nat.reduceSub, Nat.reduceMul, Nat.reduceLeDiff, reduceCtorEq, Int.reduceNeg, Int.reduceToNat, Int.reduceLT, Int.reduceLE, Int.reduceGE, Int.reduceGT, Int.reduceEq, h0, h1, g0, g1, hq, w1, w2, l0, l1]
    refine ACs.pure hT ?_
    rcases Bool.eq_false_or_eq_true (kindB q) with hb | hb
    · rw [hb, if_neg (by decide)]
      simp (dsimp := false) only [go_sem, ↓reduceIte, Nat.reduceEqDiff, Nat.reduceLT, Nat.reduceAdd, Nat.reduceSub, Nat.reduceMul, Nat.reduceLeDiff, reduceCtorEq, Int.reduceNeg, Int.reduceToNat, Int.reduceLT, Int.reduceLE, Int.reduceGE, Int.reduceGT, Int.reduceEq, hb, h0, h1, g0, g1, hq, w1, w2, l0, l1]
      refine AW.draw (M := []) [.v, .v, .v, .v, .v, .v, .v, .v, .v, .v, .v, .v] mixed (by kernel_rfl) ?_
      simp (dsimp := false) only [go_sem, ↓reduceIte, Nat.reduceEqDiff, Nat.reduceLT, Nat.reduceAdd, Nat.reduceSub, Nat.reduceMul, Nat.reduceLeDiff, reduceCtorEq, Int.reduceNeg, Int.reduceToNat, Int.reduceLT, Int.reduceLE, Int.reduceGE, Int.reduceGT, Int.reduceEq, hb, h0, h1, g0, g1, hq, w1, w2, l0, l1]
    · rw [hb, if_pos rfl]
      simp (dsimp := false) only [go_sem, ↓reduceIte, Nat.reduceEqDiff, Nat.reduceLT, Nat.reduceAdd, Nat.reduceSub, Nat.reduceMul, Nat.reduceLeDiff, reduceCtorEq, Int.reduceNeg, Int.reduceToNat, Int.reduceLT, Int.reduceLE, Int.reduceGE, Int.reduceGT, Int.reduceEq, hb]
  · rw [if_pos h1]
    simp (dsimp := false) only [go_sem, ↓reduceIte, Nat.reduceEqDiff, Nat.reduceLT, Nat.reduceAdd, Nat.reduceSub, Nat.reduceMul, Nat.reduceLeDiff, reduceCtorEq, Int.reduceNeg, Int.reduceToNat, Int.reduceLT, Int.reduceLE, Int.reduceGE, Int.reduceGT, Int.reduceEq, h0, h1, g0, l0]
theorem getD_int {l : List Int} {i : Nat} (h : i < l.length) : (l.map iA).getD i .any = iA (l.getD i 0) := by
  simp [List.getD_eq_getElem?_getD, h]
theorem IndexInt_pn (l : List Int) (x : Int) (hl : l.length ≤ 1000) : PN Tryz.prog 179 [.lst 1 (l.map iA), .raw (.int .i64 x)] (fun d => ∃ r : Int, d = .raw (.int .i64 r) ∧ (r ≥ 0 ↔ x ∈ l)) := by
  refine PN.of_ac ?_
  refine AC.of_body (M := []) Tryz.func179 rfl (by kernel_rfl) (Nat.le_of_ble_eq_true rfl) ?_; simp only [Tryz.results179, Tryz.ntmps179]
  simp (dsimp := false) only [go_sem, ↓reduceIte, Nat.reduceEqDiff, Nat.reduceLT, Nat.reduceAdd, Nat.reduceSub, Nat.reduceMul, Nat.reduceLeDiff, reduceCtorEq, Int.reduceNeg, Int.reduceToNat, Int.reduceLT, Int.reduceLE, Int.reduceGE, Int.reduceGT, Int.reduceEq]
  refine AW.loopJ (M := []) (X := Nat) (fun i => ⟨19, tmL [(0, .lst 1 (l.map iA)), (1, .raw (.int .i64 x)), (7, .raw (.int .i64 (l.map iA).length)), (8, .raw (.int .i64 i))], noOwn⟩)
    (fun i => i ≤ l.length ∧ ∀ j < i, l.getD j 0 ≠ x) (fun i => l.length - i) 0 ⟨Nat.zero_le _, fun j h => absurd h (by omega)⟩ ?_ ?_
  · (refine Ghost.of ?_ (fun _ _ h => by cases h); (repeat' (first | exact all_nil | refine all_cons ?_ ?_)) <;> (first | (simp (dsimp := false) only [go_sem, ↓reduceIte, Nat.reduceEqDiff, Nat.reduceLT, Nat.reduceAdd, Nat.reduceSub, Nat.reduceMul, Nat.reduceLeDiff, reduceCtorEq, Int.reduceNeg, Int.reduceToNat, Int.reduceLT, Int.reduceLE, Int.reduceGE, Int.reduceGT, Int.reduceEq]; done) | (simp (dsimp := false) only [go_sem, ↓reduceIte, Nat.reduceEqDiff, Nat.reduceLT, Nat.reduceAdd, Nat.reduceSub, Nat.reduceMul, Nat.reduceLeDiff, reduceCtorEq, Int.reduceNeg, Int.reduceToNat, Int.reduceLT, Int.reduceLE, Int.reduceGE, Int.reduceGT, Int.reduceEq]; rfl)))
  rintro i ⟨hi, hne⟩
  have hL : (l.map iA).length = l.length := List.length_map ..
  by_cases hlt : (i : Int) < (l.map iA).length
  · have e1 : IntKind.i64.wrap ((i : Int) + 1) = ((i + 1 : Nat) : Int) := by rw [wrap_i64 (by omega) (by omega)]; omega
    have g : (l.map iA).getD i .any = .raw (.int .i64 (l.getD i 0)) := getD_int (by omega)
    have hmem : l.getD i 0 ∈ l := by
      rw [List.getD_eq_getElem?_getD, List.getElem?_eq_getElem (by omega)]
      exact List.getElem_mem _
    obtain ⟨y, hy⟩ : ∃ y, l.getD i 0 = y := ⟨_, rfl⟩
    rw [hy] at g hmem
    by_cases hx : x = y
    · simp (dsimp := false) only [go_sem, ↓reduceIte, Nat.reduceEqDiff, Nat.reduceLT, Nat.reduceAdd, Nat.reduceSub, Nat.reduceMul, Nat.reduceLeDiff, reduceCtorEq, Int.reduceNeg, Int.reduceToNat, Int.reduceLT, Int.reduceLE, Int.reduceGE, Int.reduceGT, Int.reduceEq, hlt, g, hx]
      (try refine ⟨by omega, ?_⟩)
      refine ⟨_, rfl, ?_⟩
      exact ⟨fun _ => hmem, fun _ => by omega⟩
    · simp (dsimp := false) only [go_sem, ↓reduceIte, Nat.reduceEqDiff, Nat.reduceLT, Nat.reduceAdd, Nat.reduceSub, Nat.reduceMul, Nat.reduceLeDiff, reduceCtorEq, Int.reduceNeg, Int.reduceToNat, Int.reduceLT, Int.reduceLE, Int.reduceGE, Int.reduceGT, Int.reduceEq, hlt, g, hx, e1]
      (try refine ⟨by omega, ?_⟩)
      refine ⟨i + 1, ⟨by omega, fun j hj => ?_⟩, ?_, by omega⟩
      · by_cases hji : j = i
        · rw [hji, hy]; exact fun e => hx e.symm
        · exact hne j (by omega)
      · (refine Ghost.of ?_ (fun _ _ h => by cases h); (repeat' (first | exact all_nil | refine all_cons ?_ ?_)) <;> (first | (simp (dsimp := false) only [go_sem, ↓reduceIte, Nat.reduceEqDiff, Nat.reduceLT, Nat.reduceAdd, Nat.reduceSub, Nat.reduceMul, Nat.reduceLeDiff, reduceCtorEq, Int.reduceNeg, Int.reduceToNat, Int.reduceLT, Int.reduceLE, Int.reduceGE, Int.reduceGT, Int.reduceEq]; done) | (simp (dsimp := false) only [go_sem, ↓reduceIte, Nat.reduceEqDiff, Nat.reduceLT, Nat.reduceAdd, Nat.reduceSub, Nat.reduceMul, Nat.reduceLeDiff, reduceCtorEq, Int.reduceNeg, Int.reduceToNat, Int.reduceLT, Int.reduceLE, Int.reduceGE, Int.reduceGT, Int.reduceEq]; rfl)))
  · simp (dsimp := false) only [go_sem, ↓reduceIte, Nat.reduceEqDiff, Nat.reduceLT, Nat.reduceAdd, Nat.reduceSub, Nat.reduceMul, Nat.reduceLeDiff, reduceCtorEq, Int.reduceNeg, Int.reduceToNat, Int.reduceLT, Int.reduceLE, Int.reduceGE, Int.reduceGT, Int.reduceEq, hlt]
    refine ⟨-1, rfl, ?_⟩
    constructor
    · intro h; omega
    · intro h
      obtain ⟨j, hj, e⟩ := List.mem_iff_getElem.1 h
      refine absurd ?_ (hne j (by omega))
      rw [List.getD_eq_getElem?_getD, List.getElem?_eq_getElem hj]
      exact e
theorem ContainsInt_pure (l : List Int) (x : Int) (hl : l.length ≤ 1000) : PC Tryz.prog 160 [.lst 1 (l.map iA), .raw (.int .i64 x)] (.raw (.bool (decide (x ∈ l)))) := by
  refine PC.of_ac ?_
  refine AC.of_body (M := []) Tryz.func160 rfl (by kernel_rfl) (Nat.le_of_ble_eq_true rfl) ?_; simp only [Tryz.results160, Tryz.ntmps160]
  simp (dsimp := false) only [go_sem, ↓reduceIte, Nat.reduceEqDiff, Nat.reduceLT, Nat.reduceAdd, Nat.reduceSub, Nat.reduceMul, Nat.reduceLeDiff, reduceCtorEq, Int.reduceNeg, Int.reduceToNat, Int.reduceLT, Int.reduceLE, Int.reduceGE, Int.reduceGT, Int.reduceEq]
  refine ACs.pn (IndexInt_pn l x hl) ?_
  rintro _ ⟨r, rfl, hr⟩
  simp (dsimp := false) only [go_sem, ↓reduceIte, Nat.reduceEqDiff, Nat.reduceLT, Nat.reduceAdd, Nat.reduceSub, Nat.reduceMul, Nat.reduceLeDiff, reduceCtorEq, Int.reduceNeg, Int.reduceToNat, Int.reduceLT, Int.reduceLE, Int.reduceGE, Int.reduceGT, Int.reduceEq]
  simp only [hr]
theorem hdIs_pure (b : List UInt8) (ks : List Int) (hn : b.length ≤ 140737488355000) (hl : ks.length ≤ 1000) : PC Tryz.prog 99 [.lst 1 (b.map byteA), .lst 1 (ks.map iA)] (.tup [.raw (.bool (hdIs b ks).1), .raw (.int .i64 (hdIs b ks).2)]) := by
  refine PC.of_ac ?_
  have hR := hdRead_pure b hn
  unfold hdIs
  obtain ⟨⟨q, lt, e⟩, hq⟩ : ∃ q, hdR b = q := ⟨_, rfl⟩
  rw [hq] at hR ⊢
  simp only at hR ⊢
  have hC := ContainsInt_pure ks q hl
  refine AC.of_body (M := []) Tryz.func99 rfl (by kernel_rfl) (Nat.le_of_ble_eq_true rfl) ?_; simp only [Tryz.results99, Tryz.ntmps99]
  simp (dsimp := false) only [go_sem, ↓reduceIte, Nat.reduceEqDiff, Nat.reduceLT, Nat.reduceAdd, Nat.reduceSub, Nat.reduceMul, Nat.reduceLeDiff, reduceCtorEq, Int.reduceNeg, Int.reduceToNat, Int.reduceLT, Int.reduceLE, Int.reduceGE, Int.reduceGT, Int.reduceEq]
  refine ACs.pure hR ?_
  by_cases he : e = 0
  · rw [if_neg (fun h => h he)]
    simp (dsimp := false) only [go_sem, ↓reduceIte, Nat.reduceEqDiff, Nat.reduceLT, Nat.reduceAdd, Nat.reduceSub, Nat.reduceMul, Nat.reduceLeDiff, reduceCtorEq, Int.reduceNeg, Int.reduceToNat, Int.reduceLT, Int.reduceLE, Int.reduceGE, Int.reduceGT, Int.reduceEq, he]
    refine ACs.pure hC ?_
    by_cases hm : q ∈ ks
    · rw [if_pos hm]
      simp (dsimp := false) only [go_sem, ↓reduceIte, Nat.reduceEqDiff, Nat.reduceLT, Nat.reduceAdd, Nat.reduceSub, Nat.reduceMul, Nat.reduceLeDiff, reduceCtorEq, Int.reduceNeg, Int.reduceToNat, Int.reduceLT, Int.reduceLE, Int.reduceGE, Int.reduceGT, Int.reduceEq, hm]
    · rw [if_neg hm]
      simp (dsimp := false) only [go_sem, ↓reduceIte, Nat.reduceEqDiff, Nat.reduceLT, Nat.reduceAdd, Nat.reduceSub, Nat.reduceMul, Nat.reduceLeDiff, reduceCtorEq, Int.reduceNeg, Int.reduceToNat, Int.reduceLT, Int.reduceLE, Int.reduceGE, Int.reduceGT, Int.reduceEq, hm]
  · rw [if_pos he]
    simp (dsimp := false) only [go_sem, ↓reduceIte, Nat.reduceEqDiff, Nat.reduceLT, Nat.reduceAdd, Nat.reduceSub, Nat.reduceMul, Nat.reduceLeDiff, reduceCtorEq, Int.reduceNeg, Int.reduceToNat, Int.reduceLT, Int.reduceLE, Int.reduceGE, Int.reduceGT, Int.reduceEq, he]
theorem hdR_put {kind : Int} {lt : Bool} (hk : 1 ≤ kind ∧ kind ≤ 10) (post : List UInt8) : hdR (hdB kind lt ++ post) = (kind, lt, 0) := by
  have hf := flagZ_range lt
  have e : ((u8 (2 * kind + flagZ lt)).toNat : Int) = 2 * kind + flagZ lt := by rw [u8_toNat]; omega
  have g0 : (hdB kind lt ++ post).getD 0 0 = 4 := rfl
  have g1 : (hdB kind lt ++ post).getD 1 0 = u8 (2 * kind + flagZ lt) := rfl
  unfold hdR
  rw [g0, g1, e, if_neg (by simp [hdB_length]; omega), if_neg (by decide), Int.tdiv_eq_ediv_of_nonneg (by omega), Int.tmod_eq_emod_of_nonneg (by omega), show (2 * kind + flagZ lt) / 2 = kind by omega, (kindB_iff kind).2 hk, if_neg (by decide), show (2 * kind + flagZ lt) % 2 = flagZ lt by omega]
  cases lt <;> rfl
theorem hdIs_put {kind : Int} {lt : Bool} (hk : 1 ≤ kind ∧ kind ≤ 10) (post : List UInt8) (ks : List Int) : hdIs (hdB kind lt ++ post) ks = if kind ∈ ks then (lt, 0) else (false, 40) := by
  unfold hdIs
  rw [hdR_put hk]
  simp only [ne_eq, not_true_eq_false, if_false]
theorem cByt_at (pre x post : List UInt8) (n : Int) (h : (x.length : Int) = n) : cByt (pre ++ (x ++ post)) n (pre.length, false) = (x, ((pre.length : Int) + n, false)) := by
  unfold cByt nextB nextC
  simp only [bytesR_at pre x post n h]
  simp
theorem rByt_at (pre x post : List UInt8) (n : Int) (h : (x.length : Int) = n) : rByt (pre ++ (x ++ post)) n (pre.length, false) = (x, ((pre.length : Int) + n, false)) := by
  unfold rByt nextC
  simp only [bytesR_at pre x post n h]
  simp
end Go.Proofs.YtghnigbihllnmaaGreat.Fn
