/- Contracts of functions that write fields. No condition but bounds on lengths. -/
import Derived.Test.YtghnigbihllnmaaGreatHlC
import Derived.Test.YtghnigbihllnmaaGreatSp1
import Derived.Test.YtghnigbihllnmaaGreatTy
set_option linter.unusedVariables false
set_option linter.unusedSimpArgs false

namespace Go.Proofs.YtghnigbihllnmaaGreat.Fn
open Go Go.Proofs Go.Proofs.YtghnigbihllnmaaGreat.Hl Go.Proofs.YtghnigbihllnmaaGreat.Ty Go.Proofs.YtghnigbihllnmaaGreat.Sp
set_option maxRecDepth 100000

theorem flat_byte (bs : List UInt8) : (bs.map byteA).flatMap cellsA = bs.map byteA := by
  induction bs with
  | nil => rfl
  | cons b bs ih => simp only [List.map_cons, List.flatMap_cons, ih]; rfl
theorem okA_bytes (bs : List UInt8) : ∀ d ∈ bs.map byteA, okA d := by
  intro d hd
  obtain ⟨b, _, rfl⟩ := List.mem_map.1 hd
  trivial
theorem elemOk_bytes (bs : List UInt8) : ∀ d ∈ bs.map byteA, elemOk 1 d := by
  intro d hd
  obtain ⟨b, _, rfl⟩ := List.mem_map.1 hd
  rfl
theorem Lies.bytes (bs : List UInt8) : Lies 1 (bs.map byteA) 0 (bs.map byteA) :=
  ⟨elemOk_bytes bs, by simp, by rw [flat_byte, List.drop_zero, Nat.mul_one, List.take_of_length_le (Nat.le_refl _)]⟩

/-- What makes a row of bytes, seen from a caller who never writes to it. -/
theorem PC.of_row {f : Nat} {args : List AV} {bs : List UInt8} (hm : bs.length ≤ 9223372036854775807) (h : ∀ own K, RowK 5 1 bs.length (bs.map byteA) own K → AC Tryz.prog f args own K) : PC Tryz.prog f args (.lst 1 (bs.map byteA)) := by
  refine PC.post (h noOwn _ ⟨fun hn => ⟨noOwn, ?_⟩, fun k c hk hc => ⟨_, Weak1.row (Own.set_same _ _ _) (Lies.bytes bs) (by simp) hc hm⟩⟩)
  have : bs = [] := List.eq_nil_of_length_eq_zero hn
  subst this
  exact Weak1.emp

/-! ### slices.Clone -/
theorem Clone_own (bs : List UInt8) (hn : bs.length ≤ 140737488355328) (own : Own) (K : AV → Own → Prop) (h : RowK 5 1 bs.length (bs.map byteA) own K) : AC Tryz.prog 176 [.lst 1 (bs.map byteA)] own K := by
  refine AC.post (K := fun d own' => (d = .raw (.slice none 0 0) ∧ bs = [] ∧ own' = own) ∨ K d own') ?_ ?_
  · refine AC.of_body (M := [5]) Tryz.func176 rfl (by kernel_rfl) (Nat.le_of_ble_eq_true rfl) ?_; simp only [Tryz.results176, Tryz.ntmps176]
    simp (dsimp := false) only [go_sem, ↓reduceIte, Nat.reduceEqDiff, Nat.reduceLT, Nat.reduceAdd, Nat.reduceSub, Nat.reduceMul, Nat.reduceLeDiff, reduceCtorEq, Int.reduceNeg, Int.reduceToNat, Int.reduceLT, Int.reduceLE, Int.reduceGE, Int.reduceGT, Int.reduceEq]
    refine ⟨fun e => .inl (by simpa using e), fun k hk => ⟨okA_bytes bs, by simpa using hn, by simpa using hn, fun k' c' hk' hc => ?_⟩⟩
    rw [Own.set_move hk, flat_byte]
    have := h.2 k' c' (Own.set_none hk hk') (by simpa using hc)
    simpa using this
  · rintro d own' (⟨rfl, rfl, rfl⟩ | hk)
    · exact ⟨.emp, own', Weak1.nil_emp, h.1 rfl⟩
    · exact ⟨d, own', Weak1.refl _ _, hk⟩

/-! ### slices.Reverse -/
/-- The first and the last m elements have been exchanged. -/
def RevAt (cs : List UInt8) (m : Nat) (l : List UInt8) : Prop := l.length = cs.length ∧ ∀ t, t < cs.length → l[t]? = if t < m ∨ cs.length ≤ t + m then cs[cs.length - 1 - t]? else cs[t]?
theorem RevAt.zero (cs : List UInt8) : RevAt cs 0 cs := ⟨rfl, fun t ht => by rw [if_neg (by omega)]⟩
theorem RevAt.done {cs l : List UInt8} {m : Nat} (h : RevAt cs m l) (hm : cs.length ≤ 2 * m + 1) : l = cs.reverse := by
  apply List.ext_getElem?
  intro t
  by_cases ht : t < cs.length
  · rw [h.2 t ht, List.getElem?_reverse ht]
    split
    · rfl
    · congr 1; omega
  · rw [List.getElem?_eq_none (by rw [h.1]; omega), List.getElem?_eq_none (by simp; omega)]
theorem RevAt.step {cs l : List UInt8} {m : Nat} (h : RevAt cs m l) (hm : 2 * m + 1 < cs.length) : RevAt cs (m + 1) ((l.set m (l.getD (cs.length - 1 - m) 0)).set (cs.length - 1 - m) (l.getD m 0)) := by
  obtain ⟨x, hx⟩ : ∃ x, x = l.getD m 0 := ⟨_, rfl⟩
  obtain ⟨y, hy⟩ : ∃ y, y = l.getD (cs.length - 1 - m) 0 := ⟨_, rfl⟩
  rw [← hx, ← hy]
  have hl := h.1
  have hx : l[m]? = some x := by rw [hx, List.getD_eq_getElem?_getD, List.getElem?_eq_getElem (by omega)]; rfl
  have hy : l[cs.length - 1 - m]? = some y := by rw [hy, List.getD_eq_getElem?_getD, List.getElem?_eq_getElem (by omega)]; rfl
  refine ⟨by simp [h.1], fun t ht => ?_⟩
  rw [h.2 _ (by omega), if_neg (by omega)] at hx
  rw [h.2 _ (by omega), if_neg (by omega)] at hy
  rw [List.getElem?_set, List.getElem?_set]
  by_cases h1 : cs.length - 1 - m = t
  · subst h1
    rw [if_pos rfl, if_pos (by simp; omega), if_pos (by omega), show cs.length - 1 - (cs.length - 1 - m) = m by omega, hx]
  · rw [if_neg h1]
    by_cases h2 : m = t
    · subst h2
      rw [if_pos rfl, if_pos (by omega), if_pos (by omega), hy]
    · rw [if_neg h2, h.2 t ht]
      by_cases h3 : t < m ∨ cs.length ≤ t + m
      · rw [if_pos h3, if_pos (by omega)]
      · rw [if_neg h3, if_neg (by omega)]
theorem getD_byte {l : List UInt8} {i : Nat} (h : i < l.length) : (l.map byteA).getD i .any = byteA (l.getD i 0) := by
  simp [List.getD_eq_getElem?_getD, h]
theorem set_byte (l : List UInt8) (i : Nat) (b : UInt8) : (l.map byteA).set i (byteA b) = (l.set i b).map byteA := by rw [List.map_set]

theorem Reverse_own (k c cap : Nat) (cs : List UInt8) (hm : cs.length ≤ 140737488355328) (own : Own) (K : AV → Own → Prop) (hk : own k = some ⟨5, cs.map byteA, 0, cap⟩) (h : K (.tup []) (own.set k ⟨5, cs.reverse.map byteA, 0, cap⟩)) :
    AC Tryz.prog 185 [.raw (.slice (some ⟨k, 0, none⟩) cs.length c)] own K := by
  refine AC.of_body (M := []) Tryz.func185 rfl (by kernel_rfl) (Nat.le_of_ble_eq_true rfl) ?_; simp only [Tryz.results185, Tryz.ntmps185]
  simp (dsimp := false) only [go_sem, ↓reduceIte, Nat.reduceEqDiff, Nat.reduceLT, Nat.reduceAdd, Nat.reduceSub, Nat.reduceMul, Nat.reduceLeDiff, reduceCtorEq, Int.reduceNeg, Int.reduceToNat, Int.reduceLT, Int.reduceLE, Int.reduceGE, Int.reduceGT, Int.reduceEq]
  have e : IntKind.i64.wrap ((cs.length : Int) - 1) = (cs.length : Int) - 1 := wrap_i64 (by omega) (by omega)
  refine AW.loopJ (M := []) (X := Nat × List UInt8) (fun x => ⟨28, tmL [(0, .raw (.slice (some ⟨k, 0, none⟩) cs.length c)), (2, .raw (.int .i64 x.1)), (3, .raw (.int .i64 ((cs.length : Int) - 1 - x.1)))], own.set k ⟨5, x.2.map byteA, 0, cap⟩⟩)
    (fun x => RevAt cs x.1 x.2 ∧ x.1 ≤ cs.length) (fun x => cs.length - x.1) (0, cs) ⟨RevAt.zero cs, Nat.zero_le _⟩ ?_ ?_
  · refine Ghost.of ?_ fun j o hj => ?_
    · refine all_cons ?_ (all_cons ?_ (all_cons ?_ all_nil)) <;> simp (dsimp := false) only [go_sem, ↓reduceIte, Nat.reduceEqDiff, Nat.reduceLT, Nat.reduceAdd, Nat.reduceSub, Nat.reduceMul, Nat.reduceLeDiff, reduceCtorEq, Int.reduceNeg, Int.reduceToNat, Int.reduceLT, Int.reduceLE, Int.reduceGE, Int.reduceGT, Int.reduceEq]
      · (try rw [e]); (try simp)
    · simp only [Own.set] at hj
      split at hj
      · rename_i e; rw [e, hk]; exact hj
      · exact hj
  · rintro ⟨m, l⟩ ⟨hR, hml⟩
    simp only at hR hml
    have hl : l.length = cs.length := hR.1
    simp (dsimp := false) only [go_sem, ↓reduceIte, Nat.reduceEqDiff, Nat.reduceLT, Nat.reduceAdd, Nat.reduceSub, Nat.reduceMul, Nat.reduceLeDiff, reduceCtorEq, Int.reduceNeg, Int.reduceToNat, Int.reduceLT, Int.reduceLE, Int.reduceGE, Int.reduceGT, Int.reduceEq]
    by_cases hlt : 2 * m + 1 < cs.length
    · rw [Br_pos (by rw [decide_eq_true_eq]; omega)]
      (try simp (dsimp := false) only [go_sem, ↓reduceIte, Nat.reduceEqDiff, Nat.reduceLT, Nat.reduceAdd, Nat.reduceSub, Nat.reduceMul, Nat.reduceLeDiff, reduceCtorEq, Int.reduceNeg, Int.reduceToNat, Int.reduceLT, Int.reduceLE, Int.reduceGE, Int.reduceGT, Int.reduceEq])
      refine AW.draw (M := []) [.v, .v, .v, .v, .v, .v, .v, .r, .v, .v, .v, .r, .v, .e, .v, .e] mixed (by kernel_rfl) ?_
      have e1 : ((cs.length : Int) - 1 - (m : Int)).toNat = cs.length - 1 - m := by omega
      have e2 : IntKind.i64.wrap ((m : Int) + 1) = ((m + 1 : Nat) : Int) := by rw [wrap_i64 (by omega) (by omega)]; omega
      have e3 : IntKind.i64.wrap ((cs.length : Int) - 1 - (m : Int) - 1) = (cs.length : Int) - 1 - ((m + 1 : Nat) : Int) := by rw [wrap_i64 (by omega) (by omega)]; omega
      simp (dsimp := false) only [go_sem, ↓reduceIte, Nat.reduceEqDiff, Nat.reduceLT, Nat.reduceAdd, Nat.reduceSub, Nat.reduceMul, Nat.reduceLeDiff, reduceCtorEq, Int.reduceNeg, Int.reduceToNat, Int.reduceLT, Int.reduceLE, Int.reduceGE, Int.reduceGT, Int.reduceEq]
      simp only [e1, e2, e3, Int.toNat_natCast]
      rw [getD_byte (by omega), getD_byte (by omega)]
      simp (dsimp := false) only [go_sem, ↓reduceIte, Nat.reduceEqDiff, Nat.reduceLT, Nat.reduceAdd, Nat.reduceSub, Nat.reduceMul, Nat.reduceLeDiff, reduceCtorEq, Int.reduceNeg, Int.reduceToNat, Int.reduceLT, Int.reduceLE, Int.reduceGE, Int.reduceGT, Int.reduceEq]
      simp only [set_byte, List.length_map, List.length_set]
      refine ⟨by omega, by omega, by omega, by omega, by omega, by omega, by omega, by omega, (m + 1, _), ⟨hR.step hlt, by simp only; omega⟩, ?_, by simp only; omega⟩
      refine Ghost.same ?_
      refine all_cons ?_ (all_cons ?_ (all_cons ?_ all_nil)) <;> simp (dsimp := false) only [go_sem, ↓reduceIte, Nat.reduceEqDiff, Nat.reduceLT, Nat.reduceAdd, Nat.reduceSub, Nat.reduceMul, Nat.reduceLeDiff, reduceCtorEq, Int.reduceNeg, Int.reduceToNat, Int.reduceLT, Int.reduceLE, Int.reduceGE, Int.reduceGT, Int.reduceEq]
    · rw [Br_neg (by rw [decide_eq_false_iff_not]; omega)]
      (try simp (dsimp := false) only [go_sem, ↓reduceIte, Nat.reduceEqDiff, Nat.reduceLT, Nat.reduceAdd, Nat.reduceSub, Nat.reduceMul, Nat.reduceLeDiff, reduceCtorEq, Int.reduceNeg, Int.reduceToNat, Int.reduceLT, Int.reduceLE, Int.reduceGE, Int.reduceGT, Int.reduceEq])
      have := hR.done (by omega)
      subst this
      exact h

/-! ### field.number -/
theorem set_low (n : Int) (size i : Nat) (h : i < size) : ((lowB n i ++ List.replicate (size - i) 0).set i (u8 (n.fdiv (2 ^ (8 * i))))) = lowB n (i + 1) ++ List.replicate (size - (i + 1)) 0 := by
  rw [List.set_append_right _ _ (by rw [lowB_length]; exact Nat.le_refl _), lowB_length, Nat.sub_self, show size - i = (size - (i + 1)) + 1 by omega, List.replicate_succ, List.set_cons_zero]
  simp only [lowB, List.range_succ, List.map_append, List.map_cons, List.map_nil, List.append_assoc, List.singleton_append]
theorem zero_bytes (n : Nat) : List.replicate n (AV.raw (.int .u8 0)) = (List.replicate n (0 : UInt8)).map byteA := by
  rw [List.map_replicate]; rfl

theorem number_own (n : Int) (size : Nat) (little : Bool) (hs : size ≤ 8) (own : Own) (K : AV → Own → Prop) (h : ∀ k c, own k = none → size ≤ c → K (.raw (.slice (some ⟨k, 0, none⟩) size c)) (own.set k ⟨5, (numB n size little).map byteA, 0, c⟩)) :
    AC Tryz.prog 171 [.raw (.int .i64 n), .raw (.int .i64 size), .raw (.bool little)] own K := by
  refine AC.of_body (M := []) Tryz.func171 rfl (by kernel_rfl) (Nat.le_of_ble_eq_true rfl) ?_; simp only [Tryz.results171, Tryz.ntmps171]
  simp (dsimp := false) only [go_sem, ↓reduceIte, Nat.reduceEqDiff, Nat.reduceLT, Nat.reduceAdd, Nat.reduceSub, Nat.reduceMul, Nat.reduceLeDiff, reduceCtorEq, Int.reduceNeg, Int.reduceToNat, Int.reduceLT, Int.reduceLE, Int.reduceGE, Int.reduceGT, Int.reduceEq]
  refine ⟨by omega, by omega, by omega, by omega, fun k hk => ?_⟩
  refine AW.loopJ (M := []) (X := Nat) (fun i => ⟨30, tmL [(0, .raw (.int .i64 n)), (2, .raw (.bool little)), (7, .raw (.slice (some ⟨k, 0, none⟩) size size)), (12, .raw (.int .i64 size)), (13, .raw (.int .i64 i))], own.set k ⟨5, (lowB n i ++ List.replicate (size - i) 0).map byteA, 0, size⟩⟩)
    (fun i => i ≤ size) (fun i => size - i) 0 (Nat.zero_le _) ?_ ?_
  · rw [zero_bytes]
    (refine Ghost.same ?_; (repeat' (first | exact all_nil | refine all_cons ?_ ?_)) <;> (first | (simp (dsimp := false) only [go_sem, ↓reduceIte, Nat.reduceEqDiff, Nat.reduceLT, Nat.reduceAdd, Nat.reduceSub, Nat.reduceMul, Nat.reduceLeDiff, reduceCtorEq, Int.reduceNeg, Int.reduceToNat, Int.reduceLT, Int.reduceLE, Int.reduceGE, Int.reduceGT, Int.reduceEq]; done) | (simp (dsimp := false) only [go_sem, ↓reduceIte, Nat.reduceEqDiff, Nat.reduceLT, Nat.reduceAdd, Nat.reduceSub, Nat.reduceMul, Nat.reduceLeDiff, reduceCtorEq, Int.reduceNeg, Int.reduceToNat, Int.reduceLT, Int.reduceLE, Int.reduceGE, Int.reduceGT, Int.reduceEq]; rfl)))
  · intro i hi
    simp (dsimp := false) only [go_sem, ↓reduceIte, Nat.reduceEqDiff, Nat.reduceLT, Nat.reduceAdd, Nat.reduceSub, Nat.reduceMul, Nat.reduceLeDiff, reduceCtorEq, Int.reduceNeg, Int.reduceToNat, Int.reduceLT, Int.reduceLE, Int.reduceGE, Int.reduceGT, Int.reduceEq]
    by_cases hlt : i < size
    · rw [Br_pos (by rw [decide_eq_true_eq]; omega)]
      (try simp (dsimp := false) only [go_sem, ↓reduceIte, Nat.reduceEqDiff, Nat.reduceLT, Nat.reduceAdd, Nat.reduceSub, Nat.reduceMul, Nat.reduceLeDiff, reduceCtorEq, Int.reduceNeg, Int.reduceToNat, Int.reduceLT, Int.reduceLE, Int.reduceGE, Int.reduceGT, Int.reduceEq])
      have e1 : IntKind.i64.wrap (8 * (i : Int)) = ((8 * i : Nat) : Int) := by rw [wrap_i64 (by omega) (by omega)]; omega
      have e2 : IntKind.i64.wrap ((i : Int) + 1) = ((i + 1 : Nat) : Int) := by rw [wrap_i64 (by omega) (by omega)]; omega
      have e3 : min (8 * i) 64 = 8 * i := by omega
      simp only [e1, e2, Int.toNat_natCast, e3, wrap_u8]
      have hb : ∀ x, AV.raw (.int .u8 ((u8 x).toNat : Int)) = byteA (u8 x) := fun _ => rfl
      simp only [hb, set_byte]
      rw [set_low n size i hlt]
      (try simp only [List.length_map, List.length_append, List.length_replicate, lowB_length])
      refine ⟨by omega, by omega, by omega, i + 1, by omega, ?_, by omega⟩
      (refine Ghost.same ?_; (repeat' (first | exact all_nil | refine all_cons ?_ ?_)) <;> (first | (simp (dsimp := false) only [go_sem, ↓reduceIte, Nat.reduceEqDiff, Nat.reduceLT, Nat.reduceAdd, Nat.reduceSub, Nat.reduceMul, Nat.reduceLeDiff, reduceCtorEq, Int.reduceNeg, Int.reduceToNat, Int.reduceLT, Int.reduceLE, Int.reduceGE, Int.reduceGT, Int.reduceEq]; done) | (simp (dsimp := false) only [go_sem, ↓reduceIte, Nat.reduceEqDiff, Nat.reduceLT, Nat.reduceAdd, Nat.reduceSub, Nat.reduceMul, Nat.reduceLeDiff, reduceCtorEq, Int.reduceNeg, Int.reduceToNat, Int.reduceLT, Int.reduceLE, Int.reduceGE, Int.reduceGT, Int.reduceEq]; rfl)))
    · have : i = size := by omega
      subst this
      rw [Br_neg (by rw [decide_eq_false_iff_not]; omega)]
      (try simp (dsimp := false) only [go_sem, ↓reduceIte, Nat.reduceEqDiff, Nat.reduceLT, Nat.reduceAdd, Nat.reduceSub, Nat.reduceMul, Nat.reduceLeDiff, reduceCtorEq, Int.reduceNeg, Int.reduceToNat, Int.reduceLT, Int.reduceLE, Int.reduceGE, Int.reduceGT, Int.reduceEq])
      (try simp only [Nat.sub_self, List.replicate_zero, List.append_nil])
      cases little
      · (try simp (dsimp := false) only [go_sem, ↓reduceIte, Nat.reduceEqDiff, Nat.reduceLT, Nat.reduceAdd, Nat.reduceSub, Nat.reduceMul, Nat.reduceLeDiff, reduceCtorEq, Int.reduceNeg, Int.reduceToNat, Int.reduceLT, Int.reduceLE, Int.reduceGE, Int.reduceGT, Int.reduceEq])
        (try simp only [Nat.sub_self, List.replicate_zero, List.append_nil])
        refine ACs.of ?_
        have hr := Reverse_own k i i (lowB n i) (by rw [lowB_length]; omega) (own.set k ⟨5, (lowB n i).map byteA, 0, i⟩)
        rw [lowB_length] at hr
        refine hr _ (Own.set_same _ _ _) ?_
        simp (dsimp := false) only [go_sem, ↓reduceIte, Nat.reduceEqDiff, Nat.reduceLT, Nat.reduceAdd, Nat.reduceSub, Nat.reduceMul, Nat.reduceLeDiff, reduceCtorEq, Int.reduceNeg, Int.reduceToNat, Int.reduceLT, Int.reduceLE, Int.reduceGE, Int.reduceGT, Int.reduceEq]
        have := h k i hk (Nat.le_refl _)
        simpa [numB] using this
      · simp (dsimp := false) only [go_sem, ↓reduceIte, Nat.reduceEqDiff, Nat.reduceLT, Nat.reduceAdd, Nat.reduceSub, Nat.reduceMul, Nat.reduceLeDiff, reduceCtorEq, Int.reduceNeg, Int.reduceToNat, Int.reduceLT, Int.reduceLE, Int.reduceGE, Int.reduceGT, Int.reduceEq]
        have := h k i hk (Nat.le_refl _)
        simpa [numB] using this
theorem number_pure (n : Int) (size : Nat) (little : Bool) (hs : size ≤ 8) : PC Tryz.prog 171 [.raw (.int .i64 n), .raw (.int .i64 size), .raw (.bool little)] (.lst 1 ((numB n size little).map byteA)) :=
  PC.of_row (by rw [numB_length]; omega) fun own K h => number_own n size little hs own K (by rw [numB_length] at h; simpa using h.2)

/-! ### field.put, and what it serves -/
theorem put_own (a b : List UInt8) (hn : a.length + b.length ≤ 140737488355328) (own : Own) (K : AV → Own → Prop) (h : RowK 5 1 (a ++ b).length ((a ++ b).map byteA) own K) :
    AC Tryz.prog 170 [.lst 1 (a.map byteA), .lst 1 (b.map byteA)] own K := by
  refine AC.of_body (M := []) Tryz.func170 rfl (by kernel_rfl) (Nat.le_of_ble_eq_true rfl) ?_; simp only [Tryz.results170, Tryz.ntmps170]
  simp (dsimp := false) only [go_sem, ↓reduceIte, Nat.reduceEqDiff, Nat.reduceLT, Nat.reduceAdd, Nat.reduceSub, Nat.reduceMul, Nat.reduceLeDiff, reduceCtorEq, Int.reduceNeg, Int.reduceToNat, Int.reduceLT, Int.reduceLE, Int.reduceGE, Int.reduceGT, Int.reduceEq]
  refine ACs.of (Clone_own a (by omega) own _ ⟨fun h0 => ?_, fun k c hk hc => ?_⟩)
  · simp (dsimp := false) only [go_sem, ↓reduceIte, Nat.reduceEqDiff, Nat.reduceLT, Nat.reduceAdd, Nat.reduceSub, Nat.reduceMul, Nat.reduceLeDiff, reduceCtorEq, Int.reduceNeg, Int.reduceToNat, Int.reduceLT, Int.reduceLE, Int.reduceGE, Int.reduceGT, Int.reduceEq]
    have ha : a = [] := List.eq_nil_of_length_eq_zero h0
    subst ha
    refine ⟨okA_bytes b, by simpa using hn, by simpa using hn, fun hb => ?_, fun hb k c hk hc => ?_⟩
    · (try simp (dsimp := false) only [go_sem, ↓reduceIte, Nat.reduceEqDiff, Nat.reduceLT, Nat.reduceAdd, Nat.reduceSub, Nat.reduceMul, Nat.reduceLeDiff, reduceCtorEq, Int.reduceNeg, Int.reduceToNat, Int.reduceLT, Int.reduceLE, Int.reduceGE, Int.reduceGT, Int.reduceEq])
      exact h.1 (by simpa using hb)
    (try simp (dsimp := false) only [go_sem, ↓reduceIte, Nat.reduceEqDiff, Nat.reduceLT, Nat.reduceAdd, Nat.reduceSub, Nat.reduceMul, Nat.reduceLeDiff, reduceCtorEq, Int.reduceNeg, Int.reduceToNat, Int.reduceLT, Int.reduceLE, Int.reduceGE, Int.reduceGT, Int.reduceEq])
    have := h.2 k c hk (by simpa using hc)
    rw [flat_byte]
    simpa using this
  · simp (dsimp := false) only [go_sem, ↓reduceIte, Nat.reduceEqDiff, Nat.reduceLT, Nat.reduceAdd, Nat.reduceSub, Nat.reduceMul, Nat.reduceLeDiff, reduceCtorEq, Int.reduceNeg, Int.reduceToNat, Int.reduceLT, Int.reduceLE, Int.reduceGE, Int.reduceGT, Int.reduceEq]
    (try simp only [List.length_map])
    refine ⟨okA_bytes b, by omega, by omega, fun k' c' hk' hc' => ?_⟩
    rw [Own.set_move hk, flat_byte, ← List.map_append]
    have := h.2 k' c' (Own.set_none hk hk') (by simpa using hc')
    simpa using this
end Go.Proofs.YtghnigbihllnmaaGreat.Fn
