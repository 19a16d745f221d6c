/- Keys: their classes, and those that are made. -/
import Derived.Test.YtghnigbihllnmaaGreatHlC
import Derived.Test.YtghnigbihllnmaaGreatSp1
import Derived.Test.YtghnigbihllnmaaGreatTy
set_option linter.unusedVariables false
set_option linter.unusedSimpArgs false
namespace Go.Proofs.YtghnigbihllnmaaGreat.Fn
open Go Hl Sp Ty
set_option maxRecDepth 100000

/-- The class of a key, 0 if it is none. -/
def clsZ (k : Int) : Int := if (k / 72057594037927936 = 1 ∨ k / 72057594037927936 = 2) ∧ 1 ≤ k % 72057594037927936 ∧ k % 72057594037927936 ≤ 4294967295 then k / 72057594037927936 else 0
def makeZ (c s : Int) : Int := if (c = 1 ∨ c = 2) ∧ 1 ≤ s ∧ s ≤ 4294967295 then c * 72057594037927936 + s else 0
theorem or_key {c s : Int} (hc : 0 ≤ c) (hc' : c < 256) (hs : 0 ≤ s) (hs' : s < 72057594037927936) :
    IntKind.u64.wrap ((BitVec.ofInt IntKind.u64.bits (c * 72057594037927936) ||| BitVec.ofInt IntKind.u64.bits s).toNat : Nat) = c * 72057594037927936 + s := by
  obtain ⟨a, rfl⟩ : ∃ a : Nat, c = a := ⟨c.toNat, by omega⟩
  obtain ⟨b, rfl⟩ : ∃ b : Nat, s = b := ⟨s.toNat, by omega⟩
  have e : IntKind.u64.bits = 64 := rfl
  have e1 : ((a : Int) * 72057594037927936) = ((2 ^ 56 * a : Nat) : Int) := by rw [show (2 : Nat) ^ 56 = 72057594037927936 by decide]; omega
  rw [e1, BitVec.ofInt_natCast, BitVec.ofInt_natCast, BitVec.toNat_or, BitVec.toNat_ofNat, BitVec.toNat_ofNat, e]
  have h56 : (2 : Nat) ^ 56 = 72057594037927936 := by decide
  have h64 : (2 : Nat) ^ 64 = 18446744073709551616 := by decide
  rw [Nat.mod_eq_of_lt (by omega), Nat.mod_eq_of_lt (by omega), ← Nat.two_pow_add_eq_or_of_lt (by omega)]
  rw [wrap_u64 (by omega) (by omega)]
  omega
theorem and_key {k : Int} (h : 0 ≤ k) (h' : k < 18446744073709551616) : IntKind.u64.wrap ((BitVec.ofInt IntKind.u64.bits k &&& BitVec.ofInt IntKind.u64.bits 72057594037927935).toNat : Nat) = k % 72057594037927936 := by
  obtain ⟨a, rfl⟩ : ∃ a : Nat, k = a := ⟨k.toNat, by omega⟩
  have e : IntKind.u64.bits = 64 := rfl
  have h56 : (2 : Nat) ^ 56 = 72057594037927936 := by decide
  have h64 : (2 : Nat) ^ 64 = 18446744073709551616 := by decide
  have e2 : (72057594037927935 : Int) = ((2 ^ 56 - 1 : Nat) : Int) := by rw [h56]; rfl
  rw [e2, BitVec.ofInt_natCast, BitVec.ofInt_natCast, BitVec.toNat_and, BitVec.toNat_ofNat, BitVec.toNat_ofNat, e]
  rw [Nat.mod_eq_of_lt (by omega), Nat.mod_eq_of_lt (by omega), Nat.and_two_pow_sub_one_eq_mod, h56]
  rw [wrap_u64 (by omega) (by omega)]
  omega
theorem shr_key (k : Int) : k.fdiv (2 ^ min 56 64) = k / 72057594037927936 := by
  rw [show (2 : Int) ^ min 56 64 = 72057594037927936 by decide, Int.fdiv_eq_ediv_of_nonneg _ (by decide)]
theorem shl_key {c : Int} (hc : 0 ≤ c) (hc' : c < 256) : IntKind.u64.wrap (c * 2 ^ min 56 64) = c * 72057594037927936 := by
  rw [show (2 : Int) ^ min 56 64 = 72057594037927936 by decide]
  exact wrap_u64 (by omega) (by omega)
set_option maxHeartbeats 4000000 in
theorem keyMake_pure (c s : Int) (hc : 0 ≤ c) (hc' : c < 256) (hs : 0 ≤ s) (hs' : s < 72057594037927936) : PC Tryz.prog 191 [.raw (.int .i64 c), .raw (.int .i64 s)] (.raw (.int .u64 (makeZ c s))) := by
  refine PC.of_ac ?_
  refine AC.of_body (M := []) Tryz.func191 rfl (by kernel_rfl) (Nat.le_of_ble_eq_true rfl) ?_; simp only [Tryz.results191, Tryz.ntmps191]
  have e1 : IntKind.u64.wrap c = c := wrap_u64 (by omega) (by omega)
  have e2 : IntKind.u64.wrap s = s := wrap_u64 (by omega) (by omega)
  have e3 := shl_key hc hc'
  have e4 := or_key hc hc' hs hs'
  by_cases h1 : c = 1
  · by_cases h2 : s < 1
    · simp (dsimp := false) only [go_sem, ↓reduceIte, Nat.reduceEqDiff, Nat.reduceLT, Nat.reduceAdd, Nat.reduceSub, Nat.reduceMul, Nat.reduceLeDiff, reduceCtorEq, Int.reduceNeg, Int.reduceToNat, Int.reduceLT, Int.reduceLE, Int.reduceGE, Int.reduceGT, Int.reduceEq, h1, h2]
      simp [makeZ]; omega
    · by_cases h3 : s > 4294967295
      · simp (dsimp := false) only [go_sem, ↓reduceIte, Nat.reduceEqDiff, Nat.reduceLT, Nat.reduceAdd, Nat.reduceSub, Nat.reduceMul, Nat.reduceLeDiff, reduceCtorEq, Int.reduceNeg, Int.reduceToNat, Int.reduceLT, Int.reduceLE, Int.reduceGE, Int.reduceGT, Int.reduceEq, h1, h2, h3]
        simp [makeZ]; omega
      · subst h1
        simp (dsimp := false) only [go_sem, ↓reduceIte, Nat.reduceEqDiff, Nat.reduceLT, Nat.reduceAdd, Nat.reduceSub, Nat.reduceMul, Nat.reduceLeDiff, reduceCtorEq, Int.reduceNeg, Int.reduceToNat, Int.reduceLT, Int.reduceLE, Int.reduceGE, Int.reduceGT, Int.reduceEq, h2, h3, e1, e2, e3, e4]
        rw [makeZ, if_pos (by omega)]
  · by_cases h1' : c = 2
    · by_cases h2 : s < 1
      · simp (dsimp := false) only [go_sem, ↓reduceIte, Nat.reduceEqDiff, Nat.reduceLT, Nat.reduceAdd, Nat.reduceSub, Nat.reduceMul, Nat.reduceLeDiff, reduceCtorEq, Int.reduceNeg, Int.reduceToNat, Int.reduceLT, Int.reduceLE, Int.reduceGE, Int.reduceGT, Int.reduceEq, h1, h1', h2]
        simp [makeZ]; omega
      · by_cases h3 : s > 4294967295
        · simp (dsimp := false) only [go_sem, ↓reduceIte, Nat.reduceEqDiff, Nat.reduceLT, Nat.reduceAdd, Nat.reduceSub, Nat.reduceMul, Nat.reduceLeDiff, reduceCtorEq, Int.reduceNeg, Int.reduceToNat, Int.reduceLT, Int.reduceLE, Int.reduceGE, Int.reduceGT, Int.reduceEq, h1, h1', h2, h3]
          simp [makeZ]; omega
        · subst h1'
          simp (dsimp := false) only [go_sem, ↓reduceIte, Nat.reduceEqDiff, Nat.reduceLT, Nat.reduceAdd, Nat.reduceSub, Nat.reduceMul, Nat.reduceLeDiff, reduceCtorEq, Int.reduceNeg, Int.reduceToNat, Int.reduceLT, Int.reduceLE, Int.reduceGE, Int.reduceGT, Int.reduceEq, h2, h3, e1, e2, e3, e4]
          rw [makeZ, if_pos (by omega)]
    · simp (dsimp := false) only [go_sem, ↓reduceIte, Nat.reduceEqDiff, Nat.reduceLT, Nat.reduceAdd, Nat.reduceSub, Nat.reduceMul, Nat.reduceLeDiff, reduceCtorEq, Int.reduceNeg, Int.reduceToNat, Int.reduceLT, Int.reduceLE, Int.reduceGE, Int.reduceGT, Int.reduceEq, h1, h1']
      simp [makeZ, h1, h1']
set_option maxHeartbeats 4000000 in
theorem rkeyMake_pure (c s : Int) (hc : 0 ≤ c) (hc' : c < 256) (hs : 0 ≤ s) (hs' : s < 72057594037927936) : PC Tryz.prog 126 [.raw (.int .i64 c), .raw (.int .i64 s)] (.raw (.int .u64 (makeZ c s))) := by
  refine PC.of_ac ?_
  refine AC.of_body (M := []) Tryz.func126 rfl (by kernel_rfl) (Nat.le_of_ble_eq_true rfl) ?_; simp only [Tryz.results126, Tryz.ntmps126]
  have e1 : IntKind.u64.wrap c = c := wrap_u64 (by omega) (by omega)
  have e2 : IntKind.u64.wrap s = s := wrap_u64 (by omega) (by omega)
  have e3 := shl_key hc hc'
  have e4 := or_key hc hc' hs hs'
  by_cases h1 : c = 1
  · by_cases h2 : s < 1
    · simp (dsimp := false) only [go_sem, ↓reduceIte, Nat.reduceEqDiff, Nat.reduceLT, Nat.reduceAdd, Nat.reduceSub, Nat.reduceMul, Nat.reduceLeDiff, reduceCtorEq, Int.reduceNeg, Int.reduceToNat, Int.reduceLT, Int.reduceLE, Int.reduceGE, Int.reduceGT, Int.reduceEq, h1, h2]
      simp [makeZ]; omega
    · by_cases h3 : s > 4294967295
      · simp (dsimp := false) only [go_sem, ↓reduceIte, Nat.reduceEqDiff, Nat.reduceLT, Nat.reduceAdd, Nat.reduceSub, Nat.reduceMul, Nat.reduceLeDiff, reduceCtorEq, Int.reduceNeg, Int.reduceToNat, Int.reduceLT, Int.reduceLE, Int.reduceGE, Int.reduceGT, Int.reduceEq, h1, h2, h3]
        simp [makeZ]; omega
      · subst h1
        simp (dsimp := false) only [go_sem, ↓reduceIte, Nat.reduceEqDiff, Nat.reduceLT, Nat.reduceAdd, Nat.reduceSub, Nat.reduceMul, Nat.reduceLeDiff, reduceCtorEq, Int.reduceNeg, Int.reduceToNat, Int.reduceLT, Int.reduceLE, Int.reduceGE, Int.reduceGT, Int.reduceEq, h2, h3, e1, e2, e3, e4]
        rw [makeZ, if_pos (by omega)]
  · by_cases h1' : c = 2
    · by_cases h2 : s < 1
      · simp (dsimp := false) only [go_sem, ↓reduceIte, Nat.reduceEqDiff, Nat.reduceLT, Nat.reduceAdd, Nat.reduceSub, Nat.reduceMul, Nat.reduceLeDiff, reduceCtorEq, Int.reduceNeg, Int.reduceToNat, Int.reduceLT, Int.reduceLE, Int.reduceGE, Int.reduceGT, Int.reduceEq, h1, h1', h2]
        simp [makeZ]; omega
      · by_cases h3 : s > 4294967295
        · simp (dsimp := false) only [go_sem, ↓reduceIte, Nat.reduceEqDiff, Nat.reduceLT, Nat.reduceAdd, Nat.reduceSub, Nat.reduceMul, Nat.reduceLeDiff, reduceCtorEq, Int.reduceNeg, Int.reduceToNat, Int.reduceLT, Int.reduceLE, Int.reduceGE, Int.reduceGT, Int.reduceEq, h1, h1', h2, h3]
          simp [makeZ]; omega
        · subst h1'
          simp (dsimp := false) only [go_sem, ↓reduceIte, Nat.reduceEqDiff, Nat.reduceLT, Nat.reduceAdd, Nat.reduceSub, Nat.reduceMul, Nat.reduceLeDiff, reduceCtorEq, Int.reduceNeg, Int.reduceToNat, Int.reduceLT, Int.reduceLE, Int.reduceGE, Int.reduceGT, Int.reduceEq, h2, h3, e1, e2, e3, e4]
          rw [makeZ, if_pos (by omega)]
    · simp (dsimp := false) only [go_sem, ↓reduceIte, Nat.reduceEqDiff, Nat.reduceLT, Nat.reduceAdd, Nat.reduceSub, Nat.reduceMul, Nat.reduceLeDiff, reduceCtorEq, Int.reduceNeg, Int.reduceToNat, Int.reduceLT, Int.reduceLE, Int.reduceGE, Int.reduceGT, Int.reduceEq, h1, h1']
      simp [makeZ, h1, h1']
theorem clsZ_make {k : Int} (h : 0 ≤ k) (h0 : k ≠ 0) : makeZ (k / 72057594037927936) (k % 72057594037927936) = k ↔ clsZ k ≠ 0 := by
  unfold makeZ clsZ
  split
  · rename_i hc
    constructor
    · intro _; omega
    · intro _; omega
  · constructor
    · intro h; omega
    · intro h; exact absurd rfl h
theorem clsZ_eq {k : Int} (h : clsZ k ≠ 0) : clsZ k = k / 72057594037927936 := by
  unfold clsZ at *
  split
  · rfl
  · rename_i hc; rw [if_neg hc] at h; exact absurd rfl h
/-- The serial number of a key. -/
def serZ (k : Int) : Int := if clsZ k = 0 then 0 else k % 72057594037927936
theorem split_pure (k : Int) (h : 0 ≤ k) (h' : k < 18446744073709551616) : PC Tryz.prog 187 [.raw (.int .u64 k)] (.tup [.raw (.int .i64 (clsZ k)), .raw (.int .i64 (serZ k))]) := by
  refine PC.of_ac ?_
  refine AC.of_body (M := []) Tryz.func187 rfl (by kernel_rfl) (Nat.le_of_ble_eq_true rfl) ?_; simp only [Tryz.results187, Tryz.ntmps187]
  have e1 := shr_key k
  have e2 := and_key h h'
  have e3 : IntKind.i64.wrap (k / 72057594037927936) = k / 72057594037927936 := wrap_i64 (by omega) (by omega)
  have e4 : IntKind.i64.wrap (k % 72057594037927936) = k % 72057594037927936 := wrap_i64 (by omega) (by omega)
  by_cases h0 : k = 0
  · subst h0
    simp (dsimp := false) only [go_sem, ↓reduceIte, Nat.reduceEqDiff, Nat.reduceLT, Nat.reduceAdd, Nat.reduceSub, Nat.reduceMul, Nat.reduceLeDiff, reduceCtorEq, Int.reduceNeg, Int.reduceToNat, Int.reduceLT, Int.reduceLE, Int.reduceGE, Int.reduceGT, Int.reduceEq, e1, e2, e3, e4]
    decide
  · simp (dsimp := false) only [go_sem, ↓reduceIte, Nat.reduceEqDiff, Nat.reduceLT, Nat.reduceAdd, Nat.reduceSub, Nat.reduceMul, Nat.reduceLeDiff, reduceCtorEq, Int.reduceNeg, Int.reduceToNat, Int.reduceLT, Int.reduceLE, Int.reduceGE, Int.reduceGT, Int.reduceEq, e1, e2, e3, e4, h0]
    refine ACs.pure (keyMake_pure _ _ (by omega) (by omega) (by omega) (by omega)) ?_
    by_cases hm : makeZ (k / 72057594037927936) (k % 72057594037927936) = k
    · simp (dsimp := false) only [go_sem, ↓reduceIte, Nat.reduceEqDiff, Nat.reduceLT, Nat.reduceAdd, Nat.reduceSub, Nat.reduceMul, Nat.reduceLeDiff, reduceCtorEq, Int.reduceNeg, Int.reduceToNat, Int.reduceLT, Int.reduceLE, Int.reduceGE, Int.reduceGT, Int.reduceEq, hm]
      have hz := (clsZ_make h h0).1 hm
      have he := clsZ_eq hz
      rw [serZ, if_neg hz, ← he]
      trivial
    · simp (dsimp := false) only [go_sem, ↓reduceIte, Nat.reduceEqDiff, Nat.reduceLT, Nat.reduceAdd, Nat.reduceSub, Nat.reduceMul, Nat.reduceLeDiff, reduceCtorEq, Int.reduceNeg, Int.reduceToNat, Int.reduceLT, Int.reduceLE, Int.reduceGE, Int.reduceGT, Int.reduceEq, hm]
      have hz : clsZ k = 0 := by
        by_cases hz : clsZ k = 0
        · exact hz
        · exact absurd ((clsZ_make h h0).2 hz) hm
      rw [serZ, if_pos hz, hz]
      trivial
theorem keyClass_pure (k : Int) (h : 0 ≤ k) (h' : k < 18446744073709551616) : PC Tryz.prog 177 [.raw (.int .u64 k)] (.raw (.int .i64 (clsZ k))) := by
  refine PC.of_ac ?_
  refine AC.of_body (M := []) Tryz.func177 rfl (by kernel_rfl) (Nat.le_of_ble_eq_true rfl) ?_; simp only [Tryz.results177, Tryz.ntmps177]
  simp (dsimp := false) only [go_sem, ↓reduceIte, Nat.reduceEqDiff, Nat.reduceLT, Nat.reduceAdd, Nat.reduceSub, Nat.reduceMul, Nat.reduceLeDiff, reduceCtorEq, Int.reduceNeg, Int.reduceToNat, Int.reduceLT, Int.reduceLE, Int.reduceGE, Int.reduceGT, Int.reduceEq]
  exact ACs.pure (split_pure k h h') (by simp (dsimp := false) only [go_sem, ↓reduceIte, Nat.reduceEqDiff, Nat.reduceLT, Nat.reduceAdd, Nat.reduceSub, Nat.reduceMul, Nat.reduceLeDiff, reduceCtorEq, Int.reduceNeg, Int.reduceToNat, Int.reduceLT, Int.reduceLE, Int.reduceGE, Int.reduceGT, Int.reduceEq])
theorem keyValid_pure (k : Int) (h : 0 ≤ k) (h' : k < 18446744073709551616) : PC Tryz.prog 152 [.raw (.int .u64 k)] (.raw (.bool (!decide (clsZ k = 0)))) := by
  refine PC.of_ac ?_
  refine AC.of_body (M := []) Tryz.func152 rfl (by kernel_rfl) (Nat.le_of_ble_eq_true rfl) ?_; simp only [Tryz.results152, Tryz.ntmps152]
  simp (dsimp := false) only [go_sem, ↓reduceIte, Nat.reduceEqDiff, Nat.reduceLT, Nat.reduceAdd, Nat.reduceSub, Nat.reduceMul, Nat.reduceLeDiff, reduceCtorEq, Int.reduceNeg, Int.reduceToNat, Int.reduceLT, Int.reduceLE, Int.reduceGE, Int.reduceGT, Int.reduceEq]
  exact ACs.pure (keyClass_pure k h h') (by simp (dsimp := false) only [go_sem, ↓reduceIte, Nat.reduceEqDiff, Nat.reduceLT, Nat.reduceAdd, Nat.reduceSub, Nat.reduceMul, Nat.reduceLeDiff, reduceCtorEq, Int.reduceNeg, Int.reduceToNat, Int.reduceLT, Int.reduceLE, Int.reduceGE, Int.reduceGT, Int.reduceEq])
theorem rkeyValid_pure (k : Int) (h : 0 ≤ k) (h' : k < 18446744073709551616) : PC Tryz.prog 66 [.raw (.int .u64 k)] (.raw (.bool (!decide (clsZ k = 0)))) := by
  refine PC.of_ac ?_
  refine AC.of_body (M := []) Tryz.func66 rfl (by kernel_rfl) (Nat.le_of_ble_eq_true rfl) ?_; simp only [Tryz.results66, Tryz.ntmps66]
  have e1 := shr_key k
  have e2 := and_key h h'
  have e3 : IntKind.i64.wrap (k / 72057594037927936) = k / 72057594037927936 := wrap_i64 (by omega) (by omega)
  have e4 : IntKind.i64.wrap (k % 72057594037927936) = k % 72057594037927936 := wrap_i64 (by omega) (by omega)
  by_cases h0 : k = 0
  · subst h0
    simp (dsimp := false) only [go_sem, ↓reduceIte, Nat.reduceEqDiff, Nat.reduceLT, Nat.reduceAdd, Nat.reduceSub, Nat.reduceMul, Nat.reduceLeDiff, reduceCtorEq, Int.reduceNeg, Int.reduceToNat, Int.reduceLT, Int.reduceLE, Int.reduceGE, Int.reduceGT, Int.reduceEq, e1, e2, e3, e4]
    (try decide)
  · simp (dsimp := false) only [go_sem, ↓reduceIte, Nat.reduceEqDiff, Nat.reduceLT, Nat.reduceAdd, Nat.reduceSub, Nat.reduceMul, Nat.reduceLeDiff, reduceCtorEq, Int.reduceNeg, Int.reduceToNat, Int.reduceLT, Int.reduceLE, Int.reduceGE, Int.reduceGT, Int.reduceEq, e1, e2, e3, e4, h0]
    refine ACs.pure (rkeyMake_pure _ _ (by omega) (by omega) (by omega) (by omega)) ?_
    simp (dsimp := false) only [go_sem, ↓reduceIte, Nat.reduceEqDiff, Nat.reduceLT, Nat.reduceAdd, Nat.reduceSub, Nat.reduceMul, Nat.reduceLeDiff, reduceCtorEq, Int.reduceNeg, Int.reduceToNat, Int.reduceLT, Int.reduceLE, Int.reduceGE, Int.reduceGT, Int.reduceEq]
    have := clsZ_make h h0
    by_cases hz : clsZ k = 0
    · have hm : ¬ makeZ (k / 72057594037927936) (k % 72057594037927936) = k := fun hm => this.1 hm hz
      rw [decide_eq_true hz, decide_eq_false hm]
      (try rfl)
    · rw [decide_eq_false hz, decide_eq_true (this.2 hz)]
      (try rfl)
theorem Session_pure (n : Int) (h : 0 ≤ n) (h' : n < 4294967295) : PC Tryz.prog 45 [.raw (.int .i64 n)] (.raw (.int .u64 (144115188075855873 + n))) := by
  refine PC.of_ac ?_
  refine AC.of_body (M := []) Tryz.func45 rfl (by kernel_rfl) (Nat.le_of_ble_eq_true rfl) ?_; simp only [Tryz.results45, Tryz.ntmps45]
  have e1 : IntKind.i64.wrap (1 + n) = 1 + n := wrap_i64 (by omega) (by omega)
  have e2 : IntKind.u64.wrap (1 + n) = 1 + n := wrap_u64 (by omega) (by omega)
  have e4 := or_key (c := 2) (s := 1 + n) (by omega) (by omega) (by omega) (by omega)
  rw [show (2 : Int) * 72057594037927936 = 144115188075855872 by decide] at e4
  simp (dsimp := false) only [go_sem, ↓reduceIte, Nat.reduceEqDiff, Nat.reduceLT, Nat.reduceAdd, Nat.reduceSub, Nat.reduceMul, Nat.reduceLeDiff, reduceCtorEq, Int.reduceNeg, Int.reduceToNat, Int.reduceLT, Int.reduceLE, Int.reduceGE, Int.reduceGT, Int.reduceEq, e1, e2, e4]
  omega
theorem cls_session {n : Int} (h : 0 ≤ n) (h' : n < 4294967295) : clsZ (144115188075855873 + n) = 2 := by
  unfold clsZ; rw [if_pos (by omega)]; omega
theorem cls_long {n : Int} (h : 0 ≤ n) (h' : n < 4294967295) : clsZ (72057594037927937 + n) = 1 := by
  unfold clsZ; rw [if_pos (by omega)]; omega
end Go.Proofs.YtghnigbihllnmaaGreat.Fn
