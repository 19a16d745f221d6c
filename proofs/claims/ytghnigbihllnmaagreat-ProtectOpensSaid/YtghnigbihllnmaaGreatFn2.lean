/- Contracts of the functions that write fields, continued, and of their references. No condition but bounds on lengths. -/
import Derived.Test.YtghnigbihllnmaaGreatHlC
import Derived.Test.YtghnigbihllnmaaGreatSp1
import Derived.Test.YtghnigbihllnmaaGreatTy
import Derived.Test.YtghnigbihllnmaaGreatFn1
set_option linter.unusedVariables false
set_option linter.unusedSimpArgs false

namespace Go.Proofs.YtghnigbihllnmaaGreat.Fn
open Go Go.Proofs Go.Proofs.YtghnigbihllnmaaGreat.Hl Go.Proofs.YtghnigbihllnmaaGreat.Ty Go.Proofs.YtghnigbihllnmaaGreat.Sp
set_option maxRecDepth 100000

theorem hbyte (x : Int) : AV.raw (.int .u8 ((u8 x).toNat : Int)) = byteA (u8 x) := rfl
theorem hzero : AV.raw (.int .u8 0) = byteA 0 := rfl

theorem PutNumber_own (b : List UInt8) (n : Int) (little : Bool) (hn : b.length ≤ 140737488355000) (own : Own) (K : AV → Own → Prop) (h : RowK 5 1 (b ++ numB n 4 little).length ((b ++ numB n 4 little).map byteA) own K) :
    AC Tryz.prog 122 [.lst 1 (b.map byteA), .raw (.int .i64 n), .raw (.bool little)] own K := by
  refine AC.of_body (M := []) Tryz.func122 rfl (by kernel_rfl) (Nat.le_of_ble_eq_true rfl) ?_; simp only [Tryz.results122, Tryz.ntmps122]
  simp (dsimp := false) only [go_sem, ↓reduceIte, Nat.reduceEqDiff, Nat.reduceLT, Nat.reduceAdd, Nat.reduceSub, Nat.reduceMul, Nat.reduceLeDiff, reduceCtorEq, Int.reduceNeg, Int.reduceToNat, Int.reduceLT, Int.reduceLE, Int.reduceGE, Int.reduceGT, Int.reduceEq]
  refine ACs.pure (number_pure n 4 little (by omega)) ?_
  (try simp (dsimp := false) only [go_sem, ↓reduceIte, Nat.reduceEqDiff, Nat.reduceLT, Nat.reduceAdd, Nat.reduceSub, Nat.reduceMul, Nat.reduceLeDiff, reduceCtorEq, Int.reduceNeg, Int.reduceToNat, Int.reduceLT, Int.reduceLE, Int.reduceGE, Int.reduceGT, Int.reduceEq])
  refine ACs.of (put_own b _ (by rw [numB_length]; omega) own _ ⟨fun h0 => ?_, fun k c hk hc => ?_⟩)
  · simp (dsimp := false) only [go_sem, ↓reduceIte, Nat.reduceEqDiff, Nat.reduceLT, Nat.reduceAdd, Nat.reduceSub, Nat.reduceMul, Nat.reduceLeDiff, reduceCtorEq, Int.reduceNeg, Int.reduceToNat, Int.reduceLT, Int.reduceLE, Int.reduceGE, Int.reduceGT, Int.reduceEq]; exact h.1 h0
  · simp (dsimp := false) only [go_sem, ↓reduceIte, Nat.reduceEqDiff, Nat.reduceLT, Nat.reduceAdd, Nat.reduceSub, Nat.reduceMul, Nat.reduceLeDiff, reduceCtorEq, Int.reduceNeg, Int.reduceToNat, Int.reduceLT, Int.reduceLE, Int.reduceGE, Int.reduceGT, Int.reduceEq]; simpa using h.2 k c hk hc
theorem PutNumber_pure (b : List UInt8) (n : Int) (little : Bool) (hn : b.length ≤ 140737488355000) : PC Tryz.prog 122 [.lst 1 (b.map byteA), .raw (.int .i64 n), .raw (.bool little)] (.lst 1 ((b ++ numB n 4 little).map byteA)) :=
  PC.of_row (by rw [List.length_append, numB_length]; omega) fun own K h => PutNumber_own b n little hn own K h

theorem PutShort_own (b : List UInt8) (n : Int) (little : Bool) (hn : b.length ≤ 140737488355000) (own : Own) (K : AV → Own → Prop) (h : RowK 5 1 (b ++ numB n 2 little).length ((b ++ numB n 2 little).map byteA) own K) :
    AC Tryz.prog 148 [.lst 1 (b.map byteA), .raw (.int .i64 n), .raw (.bool little)] own K := by
  refine AC.of_body (M := []) Tryz.func148 rfl (by kernel_rfl) (Nat.le_of_ble_eq_true rfl) ?_; simp only [Tryz.results148, Tryz.ntmps148]
  simp (dsimp := false) only [go_sem, ↓reduceIte, Nat.reduceEqDiff, Nat.reduceLT, Nat.reduceAdd, Nat.reduceSub, Nat.reduceMul, Nat.reduceLeDiff, reduceCtorEq, Int.reduceNeg, Int.reduceToNat, Int.reduceLT, Int.reduceLE, Int.reduceGE, Int.reduceGT, Int.reduceEq]
  refine ACs.pure (number_pure n 2 little (by omega)) ?_
  (try simp (dsimp := false) only [go_sem, ↓reduceIte, Nat.reduceEqDiff, Nat.reduceLT, Nat.reduceAdd, Nat.reduceSub, Nat.reduceMul, Nat.reduceLeDiff, reduceCtorEq, Int.reduceNeg, Int.reduceToNat, Int.reduceLT, Int.reduceLE, Int.reduceGE, Int.reduceGT, Int.reduceEq])
  refine ACs.of (put_own b _ (by rw [numB_length]; omega) own _ ⟨fun h0 => ?_, fun k c hk hc => ?_⟩)
  · simp (dsimp := false) only [go_sem, ↓reduceIte, Nat.reduceEqDiff, Nat.reduceLT, Nat.reduceAdd, Nat.reduceSub, Nat.reduceMul, Nat.reduceLeDiff, reduceCtorEq, Int.reduceNeg, Int.reduceToNat, Int.reduceLT, Int.reduceLE, Int.reduceGE, Int.reduceGT, Int.reduceEq]; exact h.1 h0
  · simp (dsimp := false) only [go_sem, ↓reduceIte, Nat.reduceEqDiff, Nat.reduceLT, Nat.reduceAdd, Nat.reduceSub, Nat.reduceMul, Nat.reduceLeDiff, reduceCtorEq, Int.reduceNeg, Int.reduceToNat, Int.reduceLT, Int.reduceLE, Int.reduceGE, Int.reduceGT, Int.reduceEq]; simpa using h.2 k c hk hc
theorem PutShort_pure (b : List UInt8) (n : Int) (little : Bool) (hn : b.length ≤ 140737488355000) : PC Tryz.prog 148 [.lst 1 (b.map byteA), .raw (.int .i64 n), .raw (.bool little)] (.lst 1 ((b ++ numB n 2 little).map byteA)) :=
  PC.of_row (by rw [List.length_append, numB_length]; omega) fun own K h => PutShort_own b n little hn own K h

theorem PutOctet_own (b : List UInt8) (n : Int) (hn : b.length ≤ 140737488355000) (own : Own) (K : AV → Own → Prop) (h : RowK 5 1 (b ++ [u8 n]).length ((b ++ [u8 n]).map byteA) own K) :
    AC Tryz.prog 121 [.lst 1 (b.map byteA), .raw (.int .i64 n)] own K := by
  refine AC.of_body (M := []) Tryz.func121 rfl (by kernel_rfl) (Nat.le_of_ble_eq_true rfl) ?_; simp only [Tryz.results121, Tryz.ntmps121]
  simp (dsimp := false) only [go_sem, ↓reduceIte, Nat.reduceEqDiff, Nat.reduceLT, Nat.reduceAdd, Nat.reduceSub, Nat.reduceMul, Nat.reduceLeDiff, reduceCtorEq, Int.reduceNeg, Int.reduceToNat, Int.reduceLT, Int.reduceLE, Int.reduceGE, Int.reduceGT, Int.reduceEq]
  simp only [wrap_u8, hbyte]
  refine ACs.of (put_own b [u8 n] (by simp; omega) own _ ⟨fun h0 => ?_, fun k c hk hc => ?_⟩)
  · simp (dsimp := false) only [go_sem, ↓reduceIte, Nat.reduceEqDiff, Nat.reduceLT, Nat.reduceAdd, Nat.reduceSub, Nat.reduceMul, Nat.reduceLeDiff, reduceCtorEq, Int.reduceNeg, Int.reduceToNat, Int.reduceLT, Int.reduceLE, Int.reduceGE, Int.reduceGT, Int.reduceEq]; exact h.1 h0
  · simp (dsimp := false) only [go_sem, ↓reduceIte, Nat.reduceEqDiff, Nat.reduceLT, Nat.reduceAdd, Nat.reduceSub, Nat.reduceMul, Nat.reduceLeDiff, reduceCtorEq, Int.reduceNeg, Int.reduceToNat, Int.reduceLT, Int.reduceLE, Int.reduceGE, Int.reduceGT, Int.reduceEq]; simpa using h.2 k c hk hc
theorem PutOctet_pure (b : List UInt8) (n : Int) (hn : b.length ≤ 140737488355000) : PC Tryz.prog 121 [.lst 1 (b.map byteA), .raw (.int .i64 n)] (.lst 1 ((b ++ [u8 n]).map byteA)) :=
  PC.of_row (by simp; omega) fun own K h => PutOctet_own b n hn own K h

/-- The bytes of a text in a message. -/
def textB (s : ByteArray) : List UInt8 := s.data.toList ++ [0]
theorem bytesA_eq (s : ByteArray) : bytesA s = s.data.toList.map byteA := rfl
theorem size_eq (s : ByteArray) : s.size = s.data.toList.length := by simp
theorem PutText_own (b : List UInt8) (s : ByteArray) (hn : b.length + s.size ≤ 140737488355000) (own : Own) (K : AV → Own → Prop) (h : RowK 5 1 (b ++ textB s).length ((b ++ textB s).map byteA) own K) :
    AC Tryz.prog 123 [.lst 1 (b.map byteA), .raw (.string s)] own K := by
  have hs := size_eq s
  refine AC.of_body (M := []) Tryz.func123 rfl (by kernel_rfl) (Nat.le_of_ble_eq_true rfl) ?_; simp only [Tryz.results123, Tryz.ntmps123]
  simp (dsimp := false) only [go_sem, ↓reduceIte, Nat.reduceEqDiff, Nat.reduceLT, Nat.reduceAdd, Nat.reduceSub, Nat.reduceMul, Nat.reduceLeDiff, reduceCtorEq, Int.reduceNeg, Int.reduceToNat, Int.reduceLT, Int.reduceLE, Int.reduceGE, Int.reduceGT, Int.reduceEq]
  refine ⟨by omega, ?_⟩
  rw [bytesA_eq]
  have key : ∀ k c, own k = none → (b ++ textB s).length ≤ c → K (.raw (.slice (some ⟨k, 0, none⟩) (b ++ textB s).length c)) (own.set k ⟨5, (b ++ textB s).map byteA, 0, c⟩) := fun k c hk hc => by
    have := h.2 k c hk hc
    simpa using this
  refine ACs.of (put_own b _ (by omega) own _ ⟨fun h0 => ?_, fun k c hk hc => ?_⟩)
  · simp (dsimp := false) only [go_sem, ↓reduceIte, Nat.reduceEqDiff, Nat.reduceLT, Nat.reduceAdd, Nat.reduceSub, Nat.reduceMul, Nat.reduceLeDiff, reduceCtorEq, Int.reduceNeg, Int.reduceToNat, Int.reduceLT, Int.reduceLE, Int.reduceGE, Int.reduceGT, Int.reduceEq]
    have hb : b = [] ∧ s.data.toList = [] := by simpa using List.eq_nil_of_length_eq_zero h0
    simp only [textB, hb.1, hb.2, List.nil_append, List.length_singleton, List.map_cons, List.map_nil] at key
    exact fun k c hk hc => key k c hk hc
  · simp (dsimp := false) only [go_sem, ↓reduceIte, Nat.reduceEqDiff, Nat.reduceLT, Nat.reduceAdd, Nat.reduceSub, Nat.reduceMul, Nat.reduceLeDiff, reduceCtorEq, Int.reduceNeg, Int.reduceToNat, Int.reduceLT, Int.reduceLE, Int.reduceGE, Int.reduceGT, Int.reduceEq]
    simp only [List.length_map, hzero]
    have hL : (b ++ s.data.toList).length ≤ 140737488355000 := by simp; omega
    (try simp only [List.length_append] at hL ⊢)
    refine ⟨by omega, by omega, fun k' c' hk' hc' => ?_⟩
    rw [Own.set_move hk]
    have := key k' c' (Own.set_none hk hk') (by simp only [textB, List.length_append, List.length_singleton] at *; omega)
    simpa [textB, Nat.add_assoc] using this
theorem PutText_pure (b : List UInt8) (s : ByteArray) (hn : b.length + s.size ≤ 140737488355000) : PC Tryz.prog 123 [.lst 1 (b.map byteA), .raw (.string s)] (.lst 1 ((b ++ textB s).map byteA)) :=
  PC.of_row (by have := size_eq s; simp [textB]; omega) fun own K h => PutText_own b s hn own K h

/-- The bytes of a principal in a message. -/
def prinB (n i r : ByteArray) : List UInt8 := textB n ++ textB i ++ textB r
theorem textB_length (s : ByteArray) : (textB s).length = s.size + 1 := by simp [textB]

theorem PutPrincipal_own (b : List UInt8) (n i r : ByteArray) (hn : b.length + n.size + i.size + r.size ≤ 140737488354000) (own : Own) (K : AV → Own → Prop) (h : RowK 5 1 (b ++ prinB n i r).length ((b ++ prinB n i r).map byteA) own K) :
    AC Tryz.prog 119 [.lst 1 (b.map byteA), .st [.raw (.string n), .raw (.string i), .raw (.string r)]] own K := by
  refine AC.of_body (M := []) Tryz.func119 rfl (by kernel_rfl) (Nat.le_of_ble_eq_true rfl) ?_; simp only [Tryz.results119, Tryz.ntmps119]
  simp (dsimp := false) only [go_sem, ↓reduceIte, Nat.reduceEqDiff, Nat.reduceLT, Nat.reduceAdd, Nat.reduceSub, Nat.reduceMul, Nat.reduceLeDiff, reduceCtorEq, Int.reduceNeg, Int.reduceToNat, Int.reduceLT, Int.reduceLE, Int.reduceGE, Int.reduceGT, Int.reduceEq]
  refine AW.draw (M := []) [.v, .v, .v, .e, .v, .v, .e, .v, .v, .e, .v] mixed (by kernel_rfl) ?_
  simp (dsimp := false) only [go_sem, ↓reduceIte, Nat.reduceEqDiff, Nat.reduceLT, Nat.reduceAdd, Nat.reduceSub, Nat.reduceMul, Nat.reduceLeDiff, reduceCtorEq, Int.reduceNeg, Int.reduceToNat, Int.reduceLT, Int.reduceLE, Int.reduceGE, Int.reduceGT, Int.reduceEq]
  refine ACs.pure (PutText_pure b n (by omega)) ?_
  (try simp (dsimp := false) only [go_sem, ↓reduceIte, Nat.reduceEqDiff, Nat.reduceLT, Nat.reduceAdd, Nat.reduceSub, Nat.reduceMul, Nat.reduceLeDiff, reduceCtorEq, Int.reduceNeg, Int.reduceToNat, Int.reduceLT, Int.reduceLE, Int.reduceGE, Int.reduceGT, Int.reduceEq])
  refine ACs.pure (PutText_pure (b ++ textB n) i (by simp [textB_length]; omega)) ?_
  (try simp (dsimp := false) only [go_sem, ↓reduceIte, Nat.reduceEqDiff, Nat.reduceLT, Nat.reduceAdd, Nat.reduceSub, Nat.reduceMul, Nat.reduceLeDiff, reduceCtorEq, Int.reduceNeg, Int.reduceToNat, Int.reduceLT, Int.reduceLE, Int.reduceGE, Int.reduceGT, Int.reduceEq])
  refine ACs.of (PutText_own (b ++ textB n ++ textB i) r (by simp [textB_length]; omega) own _ ⟨fun h0 => ?_, fun k c hk hc => ?_⟩)
  · simp (dsimp := false) only [go_sem, ↓reduceIte, Nat.reduceEqDiff, Nat.reduceLT, Nat.reduceAdd, Nat.reduceSub, Nat.reduceMul, Nat.reduceLeDiff, reduceCtorEq, Int.reduceNeg, Int.reduceToNat, Int.reduceLT, Int.reduceLE, Int.reduceGE, Int.reduceGT, Int.reduceEq]; exact h.1 (by simpa [prinB, List.append_assoc] using h0)
  · simp (dsimp := false) only [go_sem, ↓reduceIte, Nat.reduceEqDiff, Nat.reduceLT, Nat.reduceAdd, Nat.reduceSub, Nat.reduceMul, Nat.reduceLeDiff, reduceCtorEq, Int.reduceNeg, Int.reduceToNat, Int.reduceLT, Int.reduceLE, Int.reduceGE, Int.reduceGT, Int.reduceEq]; simpa [prinB, List.append_assoc] using h.2 k c hk (by simpa [prinB, List.append_assoc] using hc)
theorem PutPrincipal_pure (b : List UInt8) (n i r : ByteArray) (hn : b.length + n.size + i.size + r.size ≤ 140737488354000) :
    PC Tryz.prog 119 [.lst 1 (b.map byteA), .st [.raw (.string n), .raw (.string i), .raw (.string r)]] (.lst 1 ((b ++ prinB n i r).map byteA)) :=
  PC.of_row (by simp [prinB, textB_length]; omega) fun own K h => PutPrincipal_own b n i r hn own K h

/-! ### field.Pad -/
def padN (n : Nat) : Nat := (8 - n % 8) % 8
theorem Pad_own (b : List UInt8) (hn : b.length ≤ 140737488355000) (own : Own) (K : AV → Own → Prop) (h : RowK 5 1 (b ++ List.replicate (padN b.length) 0).length ((b ++ List.replicate (padN b.length) 0).map byteA) own K) :
    AC Tryz.prog 155 [.lst 1 (b.map byteA)] own K := by
  refine AC.of_body (M := []) Tryz.func155 rfl (by kernel_rfl) (Nat.le_of_ble_eq_true rfl) ?_; simp only [Tryz.results155, Tryz.ntmps155]
  simp (dsimp := false) only [go_sem, ↓reduceIte, Nat.reduceEqDiff, Nat.reduceLT, Nat.reduceAdd, Nat.reduceSub, Nat.reduceMul, Nat.reduceLeDiff, reduceCtorEq, Int.reduceNeg, Int.reduceToNat, Int.reduceLT, Int.reduceLE, Int.reduceGE, Int.reduceGT, Int.reduceEq]
  have e1 : IntKind.i64.wrap (8 - (b.length : Int).tmod 8) = ((8 - b.length % 8 : Nat) : Int) := by rw [Int.tmod_eq_emod_of_nonneg (by omega), wrap_i64 (by omega) (by omega)]; omega
  have e2 : ((8 - b.length % 8 : Nat) : Int).tmod 8 = ((padN b.length : Nat) : Int) := by rw [Int.tmod_eq_emod_of_nonneg (by omega)]; unfold padN; omega
  have e3 : padN b.length < 8 := Nat.mod_lt _ (by decide)
  simp only [List.length_map, e1, e2, Int.toNat_natCast, zero_bytes]
  refine ⟨by omega, by omega, by omega, by omega, fun k hk => ?_⟩
  refine ACs.arg (pre := [.lst 1 (b.map byteA)]) (post := []) (Weak1.row (Own.set_same _ _ _) (Lies.bytes (List.replicate (padN b.length) 0)) (by simp) (Nat.le_refl _) (by omega)) ?_
  rw [Own.set_del hk]
  refine ACs.of (put_own b _ (by simp; omega) own _ ⟨fun h0 => ?_, fun k c hk hc => ?_⟩)
  · simp (dsimp := false) only [go_sem, ↓reduceIte, Nat.reduceEqDiff, Nat.reduceLT, Nat.reduceAdd, Nat.reduceSub, Nat.reduceMul, Nat.reduceLeDiff, reduceCtorEq, Int.reduceNeg, Int.reduceToNat, Int.reduceLT, Int.reduceLE, Int.reduceGE, Int.reduceGT, Int.reduceEq]; exact h.1 h0
  · simp (dsimp := false) only [go_sem, ↓reduceIte, Nat.reduceEqDiff, Nat.reduceLT, Nat.reduceAdd, Nat.reduceSub, Nat.reduceMul, Nat.reduceLeDiff, reduceCtorEq, Int.reduceNeg, Int.reduceToNat, Int.reduceLT, Int.reduceLE, Int.reduceGE, Int.reduceGT, Int.reduceEq]; simpa using h.2 k c hk hc
theorem Pad_pure (b : List UInt8) (hn : b.length ≤ 140737488355000) : PC Tryz.prog 155 [.lst 1 (b.map byteA)] (.lst 1 ((b ++ List.replicate (padN b.length) 0).map byteA)) :=
  PC.of_row (by have : padN b.length < 8 := Nat.mod_lt _ (by decide); simp; omega) fun own K h => Pad_own b hn own K h

/-! ### the references -/
/-- The bytes as the reference writes them. -/
theorem shift64 (n : Int) (s : Nat) (hs : s ≤ 56) : u8 ((IntKind.u64.wrap n).fdiv (2 ^ s)) = u8 (n.fdiv (2 ^ s)) := by
  have e : IntKind.u64.wrap n = n % 18446744073709551616 := by
    unfold IntKind.wrap
    simp [IntKind.bits, IntKind.signed]
  unfold u8
  congr 2
  rw [e, Int.fdiv_eq_ediv_of_nonneg _ (by exact_mod_cast Nat.zero_le _), Int.fdiv_eq_ediv_of_nonneg _ (by exact_mod_cast Nat.zero_le _)]
  have hp : (18446744073709551616 : Int) = 2 ^ s * (2 ^ (56 - s) * 256) := by
    rw [← Int.mul_assoc, ← Int.pow_add, show s + (56 - s) = 56 by omega]; decide
  have h2 : (0 : Int) < 2 ^ s := Int.pow_pos (by decide)
  rw [hp]
  generalize (2 : Int) ^ s = p at *
  generalize (2 : Int) ^ (56 - s) = q at *
  have h3 : n % (p * (q * 256)) = n - p * (q * 256) * (n / (p * (q * 256))) := Int.emod_def _ _
  rw [h3]
  generalize n / (p * (q * 256)) = t
  have hx : p * (q * 256) * t = p * (q * t * 256) := by rw [Int.mul_assoc, Int.mul_assoc, Int.mul_assoc, Int.mul_comm 256 t]
  rw [show n - p * (q * 256) * t = n + p * (-(q * t) * 256) by rw [hx, Int.neg_mul, Int.mul_neg]; rfl]
  rw [Int.add_mul_ediv_left _ _ (by omega), Int.add_mul_emod_self_right]

/-- The first i bytes that the reference writes. -/
def refB (n : Int) (size : Nat) (little : Bool) (i : Nat) : List UInt8 := (List.range i).map fun j => u8 (n.fdiv (2 ^ (8 * (if little then j else size - 1 - j))))
theorem refB_succ (n : Int) (size : Nat) (little : Bool) (i : Nat) : refB n size little (i + 1) = refB n size little i ++ [u8 (n.fdiv (2 ^ (8 * (if little then i else size - 1 - i))))] := by
  simp [refB, List.range_succ]
theorem refB_all (n : Int) (size : Nat) (little : Bool) : refB n size little size = numB n size little := by
  unfold numB refB
  cases little
  · apply List.ext_getElem?
    intro t
    by_cases ht : t < size
    · simp [lowB, ht, List.getElem?_reverse]
    · rw [List.getElem?_eq_none (by simp; omega), List.getElem?_eq_none (by simp [lowB]; omega)]
  · rfl
theorem refB_length (n : Int) (size : Nat) (little : Bool) (i : Nat) : (refB n size little i).length = i := by simp [refB]

theorem rput_own (b : List UInt8) (n : Int) (size : Nat) (little : Bool) (hs : 0 < size) (hs8 : size ≤ 8) (hn : b.length ≤ 140737488355000) (own : Own) (K : AV → Own → Prop) (h : ∀ k c, own k = none → b.length + size ≤ c → K (.raw (.slice (some ⟨k, 0, none⟩) (b.length + size) c)) (own.set k ⟨5, (b ++ numB n size little).map byteA, 0, c⟩)) :
    AC Tryz.prog 125 [.lst 1 (b.map byteA), .raw (.int .i64 n), .raw (.int .i64 size), .raw (.bool little)] own K := by
  refine AC.of_body (M := [12]) Tryz.func125 rfl (by kernel_rfl) (Nat.le_of_ble_eq_true rfl) ?_; simp only [Tryz.results125, Tryz.ntmps125]
  simp (dsimp := false) only [go_sem, ↓reduceIte, Nat.reduceEqDiff, Nat.reduceLT, Nat.reduceAdd, Nat.reduceSub, Nat.reduceMul, Nat.reduceLeDiff, reduceCtorEq, Int.reduceNeg, Int.reduceToNat, Int.reduceLT, Int.reduceLE, Int.reduceGE, Int.reduceGT, Int.reduceEq]
  refine fun k0 hk0 => ⟨okA_bytes b, by (try simp); omega, by (try simp); omega, fun k1 c1 hk1 hc1 => ?_⟩
  rw [Own.set_move hk0, flat_byte]
  have hk1' := Own.set_none hk0 hk1
  (try simp only [List.length_map] at hc1 ⊢)
  refine AW.loopJ (M := [12]) (X := Nat × Nat × Nat) (fun x => ⟨37, tmL [(1, .raw (.int .i64 n)), (2, .raw (.int .i64 size)), (3, .raw (.bool little)), (9, .raw (.slice (some ⟨x.2.1, 0, none⟩) (b.length + x.1) x.2.2)), (10, .raw (.int .i64 x.1))], own.set x.2.1 ⟨5, (b ++ refB n size little x.1).map byteA, 0, x.2.2⟩⟩)
    (fun x => x.1 ≤ size ∧ own x.2.1 = none ∧ b.length + x.1 ≤ x.2.2) (fun x => size - x.1) (0, k1, c1) ⟨Nat.zero_le _, hk1', by simpa using hc1⟩ ?_ ?_
  · simp only [refB, List.range_zero, List.map_nil, List.append_nil]
    (refine Ghost.same ?_; (repeat' (first | exact all_nil | refine all_cons ?_ ?_)) <;> (first | (simp (dsimp := false) only [go_sem, ↓reduceIte, Nat.reduceEqDiff, Nat.reduceLT, Nat.reduceAdd, Nat.reduceSub, Nat.reduceMul, Nat.reduceLeDiff, reduceCtorEq, Int.reduceNeg, Int.reduceToNat, Int.reduceLT, Int.reduceLE, Int.reduceGE, Int.reduceGT, Int.reduceEq]; done) | (simp (dsimp := false) only [go_sem, ↓reduceIte, Nat.reduceEqDiff, Nat.reduceLT, Nat.reduceAdd, Nat.reduceSub, Nat.reduceMul, Nat.reduceLeDiff, reduceCtorEq, Int.reduceNeg, Int.reduceToNat, Int.reduceLT, Int.reduceLE, Int.reduceGE, Int.reduceGT, Int.reduceEq]; rfl)))
  · rintro ⟨i, k, c⟩ ⟨hi, hk, hc⟩
    simp only at hi hk hc
    simp (dsimp := false) only [go_sem, ↓reduceIte, Nat.reduceEqDiff, Nat.reduceLT, Nat.reduceAdd, Nat.reduceSub, Nat.reduceMul, Nat.reduceLeDiff, reduceCtorEq, Int.reduceNeg, Int.reduceToNat, Int.reduceLT, Int.reduceLE, Int.reduceGE, Int.reduceGT, Int.reduceEq]
    by_cases hlt : i < size
    · rw [Br_pos (by rw [decide_eq_true_eq]; omega)]
      (try simp (dsimp := false) only [go_sem, ↓reduceIte, Nat.reduceEqDiff, Nat.reduceLT, Nat.reduceAdd, Nat.reduceSub, Nat.reduceMul, Nat.reduceLeDiff, reduceCtorEq, Int.reduceNeg, Int.reduceToNat, Int.reduceLT, Int.reduceLE, Int.reduceGE, Int.reduceGT, Int.reduceEq])
      have e0 : IntKind.i64.wrap (IntKind.i64.wrap ((size : Int) - 1) - (i : Int)) = ((size - 1 - i : Nat) : Int) := by rw [wrap_i64 (x := (size : Int) - 1) (by omega) (by omega), wrap_i64 (by omega) (by omega)]; omega
      have e2 : IntKind.i64.wrap ((i : Int) + 1) = ((i + 1 : Nat) : Int) := by rw [wrap_i64 (by omega) (by omega)]; omega
      have e1 : ∀ j : Nat, j < size → IntKind.i64.wrap (8 * (j : Int)) = ((8 * j : Nat) : Int) := fun j hj => by rw [wrap_i64 (by omega) (by omega)]; omega
      have e4 : ∀ j : Nat, j < size → IntKind.u64.wrap ((8 * j : Nat) : Int) = ((8 * j : Nat) : Int) := fun j hj => by rw [wrap_u64 (by omega) (by omega)]
      have e3 : ∀ j : Nat, j < size → min (8 * j) 64 = 8 * j := fun j hj => by omega
      have fin : ∀ (j : Nat), j < size → j = (if little then i else size - 1 - i) → u8 ((IntKind.u64.wrap n).fdiv (2 ^ min (8 * j) 64)) = u8 (n.fdiv (2 ^ (8 * (if little then i else size - 1 - i)))) := fun j hj e => by
        rw [e3 j hj, shift64 n _ (by omega), e]
      have fin2 : ∀ k', (k' = k ∨ own.set k ⟨5, (b ++ refB n size little i).map byteA, 0, c⟩ k' = none) → own k' = none := fun k' h => Own.set_none hk h
      cases little
      · simp (dsimp := false) only [go_sem, ↓reduceIte, Nat.reduceEqDiff, Nat.reduceLT, Nat.reduceAdd, Nat.reduceSub, Nat.reduceMul, Nat.reduceLeDiff, reduceCtorEq, Int.reduceNeg, Int.reduceToNat, Int.reduceLT, Int.reduceLE, Int.reduceGE, Int.reduceGT, Int.reduceEq]
        simp only [e0, e2]
        rw [e1 _ (by omega), e4 _ (by omega)]
        simp (dsimp := false) only [go_sem, ↓reduceIte, Nat.reduceEqDiff, Nat.reduceLT, Nat.reduceAdd, Nat.reduceSub, Nat.reduceMul, Nat.reduceLeDiff, reduceCtorEq, Int.reduceNeg, Int.reduceToNat, Int.reduceLT, Int.reduceLE, Int.reduceGE, Int.reduceGT, Int.reduceEq]
        simp only [wrap_u8, hbyte]
        rw [fin _ (by omega) (by simp)]
        refine ⟨by omega, by simp [refB_length], by omega, by omega, fun k' c' hk' hc' => ⟨(i + 1, k', c'), ⟨by simp only; omega, fin2 k' hk', by simp only; omega⟩, ?_, by simp only; omega⟩⟩
        rw [Own.set_move hk]
        have el : (b ++ refB n size false i).map byteA ++ [byteA (u8 (n.fdiv (2 ^ (8 * (if false = true then i else size - 1 - i)))))] = (b ++ refB n size false (i + 1)).map byteA := by
          rw [refB_succ, ← List.append_assoc, List.map_append (l₂ := [_])]; rfl
        rw [el]
        (refine Ghost.same ?_; (repeat' (first | exact all_nil | refine all_cons ?_ ?_)) <;> (first | (simp (dsimp := false) only [go_sem, ↓reduceIte, Nat.reduceEqDiff, Nat.reduceLT, Nat.reduceAdd, Nat.reduceSub, Nat.reduceMul, Nat.reduceLeDiff, reduceCtorEq, Int.reduceNeg, Int.reduceToNat, Int.reduceLT, Int.reduceLE, Int.reduceGE, Int.reduceGT, Int.reduceEq]; done) | (simp (dsimp := false) only [go_sem, ↓reduceIte, Nat.reduceEqDiff, Nat.reduceLT, Nat.reduceAdd, Nat.reduceSub, Nat.reduceMul, Nat.reduceLeDiff, reduceCtorEq, Int.reduceNeg, Int.reduceToNat, Int.reduceLT, Int.reduceLE, Int.reduceGE, Int.reduceGT, Int.reduceEq]; rfl)))
      · simp (dsimp := false) only [go_sem, ↓reduceIte, Nat.reduceEqDiff, Nat.reduceLT, Nat.reduceAdd, Nat.reduceSub, Nat.reduceMul, Nat.reduceLeDiff, reduceCtorEq, Int.reduceNeg, Int.reduceToNat, Int.reduceLT, Int.reduceLE, Int.reduceGE, Int.reduceGT, Int.reduceEq]
        simp only [e2]
        rw [e1 _ (by omega), e4 _ (by omega)]
        simp (dsimp := false) only [go_sem, ↓reduceIte, Nat.reduceEqDiff, Nat.reduceLT, Nat.reduceAdd, Nat.reduceSub, Nat.reduceMul, Nat.reduceLeDiff, reduceCtorEq, Int.reduceNeg, Int.reduceToNat, Int.reduceLT, Int.reduceLE, Int.reduceGE, Int.reduceGT, Int.reduceEq]
        simp only [wrap_u8, hbyte]
        rw [fin _ (by omega) (by simp)]
        refine ⟨by omega, by simp [refB_length], by omega, by omega, fun k' c' hk' hc' => ⟨(i + 1, k', c'), ⟨by simp only; omega, fin2 k' hk', by simp only; omega⟩, ?_, by simp only; omega⟩⟩
        rw [Own.set_move hk]
        have el : (b ++ refB n size true i).map byteA ++ [byteA (u8 (n.fdiv (2 ^ (8 * (if true = true then i else size - 1 - i)))))] = (b ++ refB n size true (i + 1)).map byteA := by
          rw [refB_succ, ← List.append_assoc, List.map_append (l₂ := [_])]; rfl
        rw [el]
        (refine Ghost.same ?_; (repeat' (first | exact all_nil | refine all_cons ?_ ?_)) <;> (first | (simp (dsimp := false) only [go_sem, ↓reduceIte, Nat.reduceEqDiff, Nat.reduceLT, Nat.reduceAdd, Nat.reduceSub, Nat.reduceMul, Nat.reduceLeDiff, reduceCtorEq, Int.reduceNeg, Int.reduceToNat, Int.reduceLT, Int.reduceLE, Int.reduceGE, Int.reduceGT, Int.reduceEq]; done) | (simp (dsimp := false) only [go_sem, ↓reduceIte, Nat.reduceEqDiff, Nat.reduceLT, Nat.reduceAdd, Nat.reduceSub, Nat.reduceMul, Nat.reduceLeDiff, reduceCtorEq, Int.reduceNeg, Int.reduceToNat, Int.reduceLT, Int.reduceLE, Int.reduceGE, Int.reduceGT, Int.reduceEq]; rfl)))
    · rw [Br_neg (by rw [decide_eq_false_iff_not]; omega)]
      (try simp (dsimp := false) only [go_sem, ↓reduceIte, Nat.reduceEqDiff, Nat.reduceLT, Nat.reduceAdd, Nat.reduceSub, Nat.reduceMul, Nat.reduceLeDiff, reduceCtorEq, Int.reduceNeg, Int.reduceToNat, Int.reduceLT, Int.reduceLE, Int.reduceGE, Int.reduceGT, Int.reduceEq])
      have : i = size := by omega
      subst this
      rw [refB_all]
      exact h k c hk hc
theorem rput_pure (b : List UInt8) (n : Int) (size : Nat) (little : Bool) (hs : 0 < size) (hs8 : size ≤ 8) (hn : b.length ≤ 140737488355000) : PC Tryz.prog 125 [.lst 1 (b.map byteA), .raw (.int .i64 n), .raw (.int .i64 size), .raw (.bool little)] (.lst 1 ((b ++ numB n size little).map byteA)) :=
  PC.of_row (by rw [List.length_append, numB_length]; omega) fun own K h => rput_own b n size little hs hs8 hn own K fun k c hk hc => by simpa [numB_length] using h.2 k c hk (by simpa [numB_length] using hc)
theorem numB_one (n : Int) (little : Bool) : numB n 1 little = [u8 n] := by
  have : lowB n 1 = [u8 n] := by simp [lowB, List.range_succ, Int.fdiv_one]
  unfold numB
  split <;> simp [this]
theorem rPutNumber_pure (b : List UInt8) (n : Int) (little : Bool) (hn : b.length ≤ 140737488355000) : PC Tryz.prog 63 [.lst 1 (b.map byteA), .raw (.int .i64 n), .raw (.bool little)] (.lst 1 ((b ++ numB n 4 little).map byteA)) := by
  refine PC.of_ac ?_
  refine AC.of_body (M := []) Tryz.func63 rfl (by kernel_rfl) (Nat.le_of_ble_eq_true rfl) ?_; simp only [Tryz.results63, Tryz.ntmps63]
  simp (dsimp := false) only [go_sem, ↓reduceIte, Nat.reduceEqDiff, Nat.reduceLT, Nat.reduceAdd, Nat.reduceSub, Nat.reduceMul, Nat.reduceLeDiff, reduceCtorEq, Int.reduceNeg, Int.reduceToNat, Int.reduceLT, Int.reduceLE, Int.reduceGE, Int.reduceGT, Int.reduceEq]
  exact ACs.pure (rput_pure b n 4 little (by omega) (by omega) hn) (by simp (dsimp := false) only [go_sem, ↓reduceIte, Nat.reduceEqDiff, Nat.reduceLT, Nat.reduceAdd, Nat.reduceSub, Nat.reduceMul, Nat.reduceLeDiff, reduceCtorEq, Int.reduceNeg, Int.reduceToNat, Int.reduceLT, Int.reduceLE, Int.reduceGE, Int.reduceGT, Int.reduceEq])
theorem rPutShort_pure (b : List UInt8) (n : Int) (little : Bool) (hn : b.length ≤ 140737488355000) : PC Tryz.prog 65 [.lst 1 (b.map byteA), .raw (.int .i64 n), .raw (.bool little)] (.lst 1 ((b ++ numB n 2 little).map byteA)) := by
  refine PC.of_ac ?_
  refine AC.of_body (M := []) Tryz.func65 rfl (by kernel_rfl) (Nat.le_of_ble_eq_true rfl) ?_; simp only [Tryz.results65, Tryz.ntmps65]
  simp (dsimp := false) only [go_sem, ↓reduceIte, Nat.reduceEqDiff, Nat.reduceLT, Nat.reduceAdd, Nat.reduceSub, Nat.reduceMul, Nat.reduceLeDiff, reduceCtorEq, Int.reduceNeg, Int.reduceToNat, Int.reduceLT, Int.reduceLE, Int.reduceGE, Int.reduceGT, Int.reduceEq]
  exact ACs.pure (rput_pure b n 2 little (by omega) (by omega) hn) (by simp (dsimp := false) only [go_sem, ↓reduceIte, Nat.reduceEqDiff, Nat.reduceLT, Nat.reduceAdd, Nat.reduceSub, Nat.reduceMul, Nat.reduceLeDiff, reduceCtorEq, Int.reduceNeg, Int.reduceToNat, Int.reduceLT, Int.reduceLE, Int.reduceGE, Int.reduceGT, Int.reduceEq])
theorem rPutOctet_pure (b : List UInt8) (n : Int) (hn : b.length ≤ 140737488355000) : PC Tryz.prog 62 [.lst 1 (b.map byteA), .raw (.int .i64 n)] (.lst 1 ((b ++ [u8 n]).map byteA)) := by
  refine PC.of_ac ?_
  refine AC.of_body (M := []) Tryz.func62 rfl (by kernel_rfl) (Nat.le_of_ble_eq_true rfl) ?_; simp only [Tryz.results62, Tryz.ntmps62]
  simp (dsimp := false) only [go_sem, ↓reduceIte, Nat.reduceEqDiff, Nat.reduceLT, Nat.reduceAdd, Nat.reduceSub, Nat.reduceMul, Nat.reduceLeDiff, reduceCtorEq, Int.reduceNeg, Int.reduceToNat, Int.reduceLT, Int.reduceLE, Int.reduceGE, Int.reduceGT, Int.reduceEq]
  have := rput_pure b n 1 false (by omega) (by omega) hn
  rw [numB_one] at this
  exact ACs.pure this (by simp (dsimp := false) only [go_sem, ↓reduceIte, Nat.reduceEqDiff, Nat.reduceLT, Nat.reduceAdd, Nat.reduceSub, Nat.reduceMul, Nat.reduceLeDiff, reduceCtorEq, Int.reduceNeg, Int.reduceToNat, Int.reduceLT, Int.reduceLE, Int.reduceGE, Int.reduceGT, Int.reduceEq])

theorem rPutText_pure (b : List UInt8) (s : ByteArray) (hn : b.length + s.size ≤ 140737488355000) : PC Tryz.prog 64 [.lst 1 (b.map byteA), .raw (.string s)] (.lst 1 ((b ++ textB s).map byteA)) := by
  have hs := size_eq s
  refine PC.of_row (by simp [textB]; omega) fun own K h => ?_
  refine AC.of_body (M := [5]) Tryz.func64 rfl (by kernel_rfl) (Nat.le_of_ble_eq_true rfl) ?_; simp only [Tryz.results64, Tryz.ntmps64]
  simp (dsimp := false) only [go_sem, ↓reduceIte, Nat.reduceEqDiff, Nat.reduceLT, Nat.reduceAdd, Nat.reduceSub, Nat.reduceMul, Nat.reduceLeDiff, reduceCtorEq, Int.reduceNeg, Int.reduceToNat, Int.reduceLT, Int.reduceLE, Int.reduceGE, Int.reduceGT, Int.reduceEq]
  refine fun k0 hk0 => ⟨okA_bytes b, by (try simp); omega, by (try simp); omega, fun k1 c1 hk1 hc1 => ?_⟩
  rw [Own.set_move hk0, flat_byte]
  have hk1' := Own.set_none hk0 hk1
  (try simp only [List.length_map] at hc1 ⊢)
  simp (dsimp := false) only [go_sem, ↓reduceIte, Nat.reduceEqDiff, Nat.reduceLT, Nat.reduceAdd, Nat.reduceSub, Nat.reduceMul, Nat.reduceLeDiff, reduceCtorEq, Int.reduceNeg, Int.reduceToNat, Int.reduceLT, Int.reduceLE, Int.reduceGE, Int.reduceGT, Int.reduceEq]
  refine ⟨by omega, by omega, fun k2 c2 hk2 hc2 => ?_⟩
  rw [Own.set_move hk1', bytesA_eq]
  have hk2' := Own.set_none hk1' hk2
  (try simp (dsimp := false) only [go_sem, ↓reduceIte, Nat.reduceEqDiff, Nat.reduceLT, Nat.reduceAdd, Nat.reduceSub, Nat.reduceMul, Nat.reduceLeDiff, reduceCtorEq, Int.reduceNeg, Int.reduceToNat, Int.reduceLT, Int.reduceLE, Int.reduceGE, Int.reduceGT, Int.reduceEq])
  refine ⟨by simp, by omega, by omega, fun k3 c3 hk3 hc3 => ?_⟩
  rw [Own.set_move hk2']
  have := h.2 k3 c3 (Own.set_none hk2' hk3) (by simp [textB]; omega)
  simpa [textB, Nat.add_assoc, hzero] using this
theorem rPutPrincipal_pure (b : List UInt8) (n i r : ByteArray) (hn : b.length + n.size + i.size + r.size ≤ 140737488354000) :
    PC Tryz.prog 60 [.lst 1 (b.map byteA), .st [.raw (.string n), .raw (.string i), .raw (.string r)]] (.lst 1 ((b ++ prinB n i r).map byteA)) := by
  refine PC.of_ac ?_
  refine AC.of_body (M := []) Tryz.func60 rfl (by kernel_rfl) (Nat.le_of_ble_eq_true rfl) ?_; simp only [Tryz.results60, Tryz.ntmps60]
  simp (dsimp := false) only [go_sem, ↓reduceIte, Nat.reduceEqDiff, Nat.reduceLT, Nat.reduceAdd, Nat.reduceSub, Nat.reduceMul, Nat.reduceLeDiff, reduceCtorEq, Int.reduceNeg, Int.reduceToNat, Int.reduceLT, Int.reduceLE, Int.reduceGE, Int.reduceGT, Int.reduceEq]
  refine AW.draw (M := []) [.v, .v, .v, .e, .v, .v, .e, .v, .v, .e, .v] mixed (by kernel_rfl) ?_
  simp (dsimp := false) only [go_sem, ↓reduceIte, Nat.reduceEqDiff, Nat.reduceLT, Nat.reduceAdd, Nat.reduceSub, Nat.reduceMul, Nat.reduceLeDiff, reduceCtorEq, Int.reduceNeg, Int.reduceToNat, Int.reduceLT, Int.reduceLE, Int.reduceGE, Int.reduceGT, Int.reduceEq]
  refine ACs.pure (rPutText_pure b n (by omega)) ?_
  (try simp (dsimp := false) only [go_sem, ↓reduceIte, Nat.reduceEqDiff, Nat.reduceLT, Nat.reduceAdd, Nat.reduceSub, Nat.reduceMul, Nat.reduceLeDiff, reduceCtorEq, Int.reduceNeg, Int.reduceToNat, Int.reduceLT, Int.reduceLE, Int.reduceGE, Int.reduceGT, Int.reduceEq])
  refine ACs.pure (rPutText_pure (b ++ textB n) i (by simp [textB_length]; omega)) ?_
  (try simp (dsimp := false) only [go_sem, ↓reduceIte, Nat.reduceEqDiff, Nat.reduceLT, Nat.reduceAdd, Nat.reduceSub, Nat.reduceMul, Nat.reduceLeDiff, reduceCtorEq, Int.reduceNeg, Int.reduceToNat, Int.reduceLT, Int.reduceLE, Int.reduceGE, Int.reduceGT, Int.reduceEq])
  refine ACs.pure (rPutText_pure (b ++ textB n ++ textB i) r (by simp [textB_length]; omega)) ?_
  (try simp (dsimp := false) only [go_sem, ↓reduceIte, Nat.reduceEqDiff, Nat.reduceLT, Nat.reduceAdd, Nat.reduceSub, Nat.reduceMul, Nat.reduceLeDiff, reduceCtorEq, Int.reduceNeg, Int.reduceToNat, Int.reduceLT, Int.reduceLE, Int.reduceGE, Int.reduceGT, Int.reduceEq])
  simp [prinB]
theorem rPad_pure (b : List UInt8) (hn : b.length ≤ 140737488355000) : PC Tryz.prog 69 [.lst 1 (b.map byteA)] (.lst 1 ((b ++ List.replicate (padN b.length) 0).map byteA)) := by
  have hp : padN b.length < 8 := Nat.mod_lt _ (by decide)
  refine PC.of_row (by simp; omega) fun own K h => ?_
  refine AC.of_body (M := [4]) Tryz.func69 rfl (by kernel_rfl) (Nat.le_of_ble_eq_true rfl) ?_; simp only [Tryz.results69, Tryz.ntmps69]
  simp (dsimp := false) only [go_sem, ↓reduceIte, Nat.reduceEqDiff, Nat.reduceLT, Nat.reduceAdd, Nat.reduceSub, Nat.reduceMul, Nat.reduceLeDiff, reduceCtorEq, Int.reduceNeg, Int.reduceToNat, Int.reduceLT, Int.reduceLE, Int.reduceGE, Int.reduceGT, Int.reduceEq]
  refine fun k0 hk0 => ⟨okA_bytes b, by (try simp); omega, by (try simp); omega, fun k1 c1 hk1 hc1 => ?_⟩
  rw [Own.set_move hk0, flat_byte]
  have hk1' := Own.set_none hk0 hk1
  (try simp only [List.length_map] at hc1 ⊢)
  refine AW.loopJ (M := [4]) (X := Nat × Nat × Nat) (fun x => ⟨15, tmL [(3, .raw (.slice (some ⟨x.2.1, 0, none⟩) (b.length + x.1) x.2.2))], own.set x.2.1 ⟨5, (b ++ List.replicate x.1 0).map byteA, 0, x.2.2⟩⟩)
    (fun x => x.1 ≤ padN b.length ∧ own x.2.1 = none ∧ b.length + x.1 ≤ x.2.2) (fun x => padN b.length - x.1) (0, k1, c1) ⟨Nat.zero_le _, hk1', by simpa using hc1⟩ ?_ ?_
  · simp only [List.replicate_zero, List.append_nil]
    (refine Ghost.same ?_; (repeat' (first | exact all_nil | refine all_cons ?_ ?_)) <;> (first | (simp (dsimp := false) only [go_sem, ↓reduceIte, Nat.reduceEqDiff, Nat.reduceLT, Nat.reduceAdd, Nat.reduceSub, Nat.reduceMul, Nat.reduceLeDiff, reduceCtorEq, Int.reduceNeg, Int.reduceToNat, Int.reduceLT, Int.reduceLE, Int.reduceGE, Int.reduceGT, Int.reduceEq]; done) | (simp (dsimp := false) only [go_sem, ↓reduceIte, Nat.reduceEqDiff, Nat.reduceLT, Nat.reduceAdd, Nat.reduceSub, Nat.reduceMul, Nat.reduceLeDiff, reduceCtorEq, Int.reduceNeg, Int.reduceToNat, Int.reduceLT, Int.reduceLE, Int.reduceGE, Int.reduceGT, Int.reduceEq]; rfl)))
  · rintro ⟨i, k, c⟩ ⟨hi, hk, hc⟩
    simp only at hi hk hc
    simp (dsimp := false) only [go_sem, ↓reduceIte, Nat.reduceEqDiff, Nat.reduceLT, Nat.reduceAdd, Nat.reduceSub, Nat.reduceMul, Nat.reduceLeDiff, reduceCtorEq, Int.reduceNeg, Int.reduceToNat, Int.reduceLT, Int.reduceLE, Int.reduceGE, Int.reduceGT, Int.reduceEq]
    have e1 : (((b.length + i : Nat) : Int)).tmod 8 = (((b.length + i) % 8 : Nat) : Int) := by rw [Int.tmod_eq_emod_of_nonneg (by omega)]; omega
    rw [e1]
    by_cases hlt : i < padN b.length
    · have h8 : (b.length + i) % 8 ≠ 0 := by unfold padN at hlt; omega
      rw [Br_pos (by rw [Bool.not_eq_true', decide_eq_false_iff_not]; omega)]
      (try simp (dsimp := false) only [go_sem, ↓reduceIte, Nat.reduceEqDiff, Nat.reduceLT, Nat.reduceAdd, Nat.reduceSub, Nat.reduceMul, Nat.reduceLeDiff, reduceCtorEq, Int.reduceNeg, Int.reduceToNat, Int.reduceLT, Int.reduceLE, Int.reduceGE, Int.reduceGT, Int.reduceEq])
      simp only [hzero]
      refine ⟨by simp, by omega, by omega, fun k' c' hk' hc' => ⟨(i + 1, k', c'), ⟨by simp only; omega, Own.set_none hk hk', by simp only; omega⟩, ?_, by simp only; omega⟩⟩
      rw [Own.set_move hk]
      have el : (b ++ List.replicate i 0).map byteA ++ [byteA 0] = (b ++ List.replicate (i + 1) 0).map byteA := by
        rw [List.replicate_succ', ← List.append_assoc, List.map_append (l₂ := [_])]; rfl
      rw [el]
      (refine Ghost.same ?_; (repeat' (first | exact all_nil | refine all_cons ?_ ?_)) <;> (first | (simp (dsimp := false) only [go_sem, ↓reduceIte, Nat.reduceEqDiff, Nat.reduceLT, Nat.reduceAdd, Nat.reduceSub, Nat.reduceMul, Nat.reduceLeDiff, reduceCtorEq, Int.reduceNeg, Int.reduceToNat, Int.reduceLT, Int.reduceLE, Int.reduceGE, Int.reduceGT, Int.reduceEq]; done) | (simp (dsimp := false) only [go_sem, ↓reduceIte, Nat.reduceEqDiff, Nat.reduceLT, Nat.reduceAdd, Nat.reduceSub, Nat.reduceMul, Nat.reduceLeDiff, reduceCtorEq, Int.reduceNeg, Int.reduceToNat, Int.reduceLT, Int.reduceLE, Int.reduceGE, Int.reduceGT, Int.reduceEq]; rfl)))
    · have : i = padN b.length := by omega
      subst this
      have h8 : (b.length + padN b.length) % 8 = 0 := by unfold padN; omega
      rw [Br_neg (by rw [h8]; decide)]
      (try simp (dsimp := false) only [go_sem, ↓reduceIte, Nat.reduceEqDiff, Nat.reduceLT, Nat.reduceAdd, Nat.reduceSub, Nat.reduceMul, Nat.reduceLeDiff, reduceCtorEq, Int.reduceNeg, Int.reduceToNat, Int.reduceLT, Int.reduceLE, Int.reduceGE, Int.reduceGT, Int.reduceEq])
      have := h.2 k c hk (by simpa using hc)
      simpa using this
end Go.Proofs.YtghnigbihllnmaaGreat.Fn
