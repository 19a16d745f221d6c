/- Contracts of the functions that make names and keys, and of the source of numbers. -/
import Derived.Test.YtghnigbihllnmaaGreatHlC
import Derived.Test.YtghnigbihllnmaaGreatSp1
import Derived.Test.YtghnigbihllnmaaGreatTy
import Derived.Test.YtghnigbihllnmaaGreatFn1
import Derived.Test.YtghnigbihllnmaaGreatFn8
import Derived.Test.YtghnigbihllnmaaGreatFn9
set_option linter.unusedVariables false
set_option linter.unusedSimpArgs false
namespace Go.Proofs.YtghnigbihllnmaaGreat.Fn
open Go Hl Sp Ty
set_option maxRecDepth 100000

/-- One of three realms. -/
def rlm (n : Int) : ByteArray := if n.tmod 3 = 0 then ⟨#[65, 84, 72]⟩ else if n.tmod 3 = 1 then ⟨#[66, 79, 83]⟩ else ⟨#[67, 65, 77]⟩
def uname (n : Int) : ByteArray := if n.tmod 3 = 0 then ⟨#[97, 110, 110]⟩ else if n.tmod 3 = 1 then ⟨#[98, 111, 98]⟩ else ⟨#[99, 97, 116]⟩
theorem tmod3 {n : Int} (h : 0 ≤ n) : n.tmod 3 = 0 ∨ n.tmod 3 = 1 ∨ n.tmod 3 = 2 := by
  rw [Int.tmod_eq_emod_of_nonneg h]; omega
theorem tdiv_r {n : Int} (h : 0 ≤ n) (h' : n < 9223372036854775808) : IntKind.i64.wrap (n.tdiv 3) = n.tdiv 3 ∧ 0 ≤ n.tdiv 3 ∧ n.tdiv 3 < 9223372036854775808 := by
  rw [Int.tdiv_eq_ediv_of_nonneg h]
  exact ⟨wrap_i64 (by omega) (by omega), by omega, by omega⟩

theorem Realms_pure : PC Tryz.prog 127 [] (.lst 1 [.raw (.string ⟨#[65, 84, 72]⟩), .raw (.string ⟨#[66, 79, 83]⟩), .raw (.string ⟨#[67, 65, 77]⟩)]) := by
  refine PC.of_ac ?_
  refine AC.of_body (M := []) Tryz.func127 rfl (by kernel_rfl) (Nat.le_of_ble_eq_true rfl) ?_; simp only [Tryz.results127, Tryz.ntmps127]
  simp (dsimp := false) only [go_sem, ↓reduceIte, Nat.reduceEqDiff, Nat.reduceLT, Nat.reduceAdd, Nat.reduceSub, Nat.reduceMul, Nat.reduceLeDiff, reduceCtorEq, Int.reduceNeg, Int.reduceToNat, Int.reduceLT, Int.reduceLE, Int.reduceGE, Int.reduceGT, Int.reduceEq]
theorem Realm_pure (n : Int) (hn : 0 ≤ n) : PC Tryz.prog 70 [.raw (.int .i64 n)] (.raw (.string (rlm n))) := by
  refine PC.of_ac ?_
  refine AC.of_body (M := []) Tryz.func70 rfl (by kernel_rfl) (Nat.le_of_ble_eq_true rfl) ?_; simp only [Tryz.results70, Tryz.ntmps70]
  simp (dsimp := false) only [go_sem, ↓reduceIte, Nat.reduceEqDiff, Nat.reduceLT, Nat.reduceAdd, Nat.reduceSub, Nat.reduceMul, Nat.reduceLeDiff, reduceCtorEq, Int.reduceNeg, Int.reduceToNat, Int.reduceLT, Int.reduceLE, Int.reduceGE, Int.reduceGT, Int.reduceEq]
  refine ACs.pure Realms_pure ?_
  rcases tmod3 hn with h | h | h
  · simp (dsimp := false) only [go_sem, ↓reduceIte, Nat.reduceEqDiff, Nat.reduceLT, Nat.reduceAdd, Nat.reduceSub, Nat.reduceMul, Nat.reduceLeDiff, reduceCtorEq, Int.reduceNeg, Int.reduceToNat, Int.reduceLT, Int.reduceLE, Int.reduceGE, Int.reduceGT, Int.reduceEq, h]
    simp [rlm, h]
  · simp (dsimp := false) only [go_sem, ↓reduceIte, Nat.reduceEqDiff, Nat.reduceLT, Nat.reduceAdd, Nat.reduceSub, Nat.reduceMul, Nat.reduceLeDiff, reduceCtorEq, Int.reduceNeg, Int.reduceToNat, Int.reduceLT, Int.reduceLE, Int.reduceGE, Int.reduceGT, Int.reduceEq, h]
    simp [rlm, h]
  · simp (dsimp := false) only [go_sem, ↓reduceIte, Nat.reduceEqDiff, Nat.reduceLT, Nat.reduceAdd, Nat.reduceSub, Nat.reduceMul, Nat.reduceLeDiff, reduceCtorEq, Int.reduceNeg, Int.reduceToNat, Int.reduceLT, Int.reduceLE, Int.reduceGE, Int.reduceGT, Int.reduceEq, h]
    simp [rlm, h]
/-- One of nine users. -/
def userP (n : Int) : ByteArray × ByteArray × ByteArray := (uname n, ⟨#[]⟩, rlm (n.tdiv 3))
theorem User_pure (n : Int) (hn : 0 ≤ n) (hn' : n < 9223372036854775808) : PC Tryz.prog 14 [.raw (.int .i64 n)] (prinA (userP n)) := by
  refine PC.of_ac ?_
  refine AC.of_body (M := []) Tryz.func14 rfl (by kernel_rfl) (Nat.le_of_ble_eq_true rfl) ?_; simp only [Tryz.results14, Tryz.ntmps14]
  obtain ⟨w1, w2, w3⟩ := tdiv_r hn hn'
  simp (dsimp := false) only [go_sem, ↓reduceIte, Nat.reduceEqDiff, Nat.reduceLT, Nat.reduceAdd, Nat.reduceSub, Nat.reduceMul, Nat.reduceLeDiff, reduceCtorEq, Int.reduceNeg, Int.reduceToNat, Int.reduceLT, Int.reduceLE, Int.reduceGE, Int.reduceGT, Int.reduceEq]
  intro k _
  refine AW.draw (M := []) [.v, .v, .v, .v, .v, .v, .v, .e, .v, .e] mixed (by kernel_rfl) ?_
  rcases tmod3 hn with h | h | h
  · simp (dsimp := false) only [go_sem, ↓reduceIte, Nat.reduceEqDiff, Nat.reduceLT, Nat.reduceAdd, Nat.reduceSub, Nat.reduceMul, Nat.reduceLeDiff, reduceCtorEq, Int.reduceNeg, Int.reduceToNat, Int.reduceLT, Int.reduceLE, Int.reduceGE, Int.reduceGT, Int.reduceEq, h, w1]
    exact ACs.pure (Realm_pure _ w2) (by simp (dsimp := false) only [go_sem, ↓reduceIte, Nat.reduceEqDiff, Nat.reduceLT, Nat.reduceAdd, Nat.reduceSub, Nat.reduceMul, Nat.reduceLeDiff, reduceCtorEq, Int.reduceNeg, Int.reduceToNat, Int.reduceLT, Int.reduceLE, Int.reduceGE, Int.reduceGT, Int.reduceEq]; simp [prinA, userP, uname, h])
  · simp (dsimp := false) only [go_sem, ↓reduceIte, Nat.reduceEqDiff, Nat.reduceLT, Nat.reduceAdd, Nat.reduceSub, Nat.reduceMul, Nat.reduceLeDiff, reduceCtorEq, Int.reduceNeg, Int.reduceToNat, Int.reduceLT, Int.reduceLE, Int.reduceGE, Int.reduceGT, Int.reduceEq, h, w1]
    exact ACs.pure (Realm_pure _ w2) (by simp (dsimp := false) only [go_sem, ↓reduceIte, Nat.reduceEqDiff, Nat.reduceLT, Nat.reduceAdd, Nat.reduceSub, Nat.reduceMul, Nat.reduceLeDiff, reduceCtorEq, Int.reduceNeg, Int.reduceToNat, Int.reduceLT, Int.reduceLE, Int.reduceGE, Int.reduceGT, Int.reduceEq]; simp [prinA, userP, uname, h])
  · simp (dsimp := false) only [go_sem, ↓reduceIte, Nat.reduceEqDiff, Nat.reduceLT, Nat.reduceAdd, Nat.reduceSub, Nat.reduceMul, Nat.reduceLeDiff, reduceCtorEq, Int.reduceNeg, Int.reduceToNat, Int.reduceLT, Int.reduceLE, Int.reduceGE, Int.reduceGT, Int.reduceEq, h, w1]
    exact ACs.pure (Realm_pure _ w2) (by simp (dsimp := false) only [go_sem, ↓reduceIte, Nat.reduceEqDiff, Nat.reduceLT, Nat.reduceAdd, Nat.reduceSub, Nat.reduceMul, Nat.reduceLeDiff, reduceCtorEq, Int.reduceNeg, Int.reduceToNat, Int.reduceLT, Int.reduceLE, Int.reduceGE, Int.reduceGT, Int.reduceEq]; simp [prinA, userP, uname, h])
def servP (n : Int) : ByteArray × ByteArray × ByteArray :=
  if n.tmod 3 = 0 then (⟨#[109, 97, 105, 108]⟩, ⟨#[]⟩, rlm (n.tdiv 3)) else if n.tmod 3 = 1 then (⟨#[110, 102, 115]⟩, ⟨#[104, 111, 109, 101]⟩, rlm (n.tdiv 3)) else (⟨#[107, 114, 98, 116, 103, 116]⟩, ⟨#[65, 84, 72]⟩, rlm (n.tdiv 3))
theorem Service_pure (n : Int) (hn : 0 ≤ n) (hn' : n < 9223372036854775808) : PC Tryz.prog 95 [.raw (.int .i64 n)] (prinA (servP n)) := by
  refine PC.of_ac ?_
  refine AC.of_body (M := []) Tryz.func95 rfl (by kernel_rfl) (Nat.le_of_ble_eq_true rfl) ?_; simp only [Tryz.results95, Tryz.ntmps95]
  obtain ⟨w1, w2, w3⟩ := tdiv_r hn hn'
  rcases tmod3 hn with h | h | h
  · simp (dsimp := false) only [go_sem, ↓reduceIte, Nat.reduceEqDiff, Nat.reduceLT, Nat.reduceAdd, Nat.reduceSub, Nat.reduceMul, Nat.reduceLeDiff, reduceCtorEq, Int.reduceNeg, Int.reduceToNat, Int.reduceLT, Int.reduceLE, Int.reduceGE, Int.reduceGT, Int.reduceEq, h, w1]
    intro k _
    intro k1 hk1
    have n1 := none_ne hk1
    have hA : ∀ (own : Own) o, (own.set k1 o) k = own k := fun own o => Own.set_ne _ _ (Ne.symm n1)
    have hB : ∀ (own : Own) o, (own.set k o) k1 = own k1 := fun own o => Own.set_ne _ _ n1
    exact ACs.pure (Realm_pure _ w2) (by simp (dsimp := false) only [go_sem, ↓reduceIte, Nat.reduceEqDiff, Nat.reduceLT, Nat.reduceAdd, Nat.reduceSub, Nat.reduceMul, Nat.reduceLeDiff, reduceCtorEq, Int.reduceNeg, Int.reduceToNat, Int.reduceLT, Int.reduceLE, Int.reduceGE, Int.reduceGT, Int.reduceEq, hA, hB]; simp [prinA, servP, h])
  · simp (dsimp := false) only [go_sem, ↓reduceIte, Nat.reduceEqDiff, Nat.reduceLT, Nat.reduceAdd, Nat.reduceSub, Nat.reduceMul, Nat.reduceLeDiff, reduceCtorEq, Int.reduceNeg, Int.reduceToNat, Int.reduceLT, Int.reduceLE, Int.reduceGE, Int.reduceGT, Int.reduceEq, h, w1]
    intro k _
    intro k1 hk1
    have n1 := none_ne hk1
    have hA : ∀ (own : Own) o, (own.set k1 o) k = own k := fun own o => Own.set_ne _ _ (Ne.symm n1)
    have hB : ∀ (own : Own) o, (own.set k o) k1 = own k1 := fun own o => Own.set_ne _ _ n1
    exact ACs.pure (Realm_pure _ w2) (by simp (dsimp := false) only [go_sem, ↓reduceIte, Nat.reduceEqDiff, Nat.reduceLT, Nat.reduceAdd, Nat.reduceSub, Nat.reduceMul, Nat.reduceLeDiff, reduceCtorEq, Int.reduceNeg, Int.reduceToNat, Int.reduceLT, Int.reduceLE, Int.reduceGE, Int.reduceGT, Int.reduceEq, hA, hB]; simp [prinA, servP, h])
  · simp (dsimp := false) only [go_sem, ↓reduceIte, Nat.reduceEqDiff, Nat.reduceLT, Nat.reduceAdd, Nat.reduceSub, Nat.reduceMul, Nat.reduceLeDiff, reduceCtorEq, Int.reduceNeg, Int.reduceToNat, Int.reduceLT, Int.reduceLE, Int.reduceGE, Int.reduceGT, Int.reduceEq, h, w1]
    intro k _
    intro k1 hk1
    have n1 := none_ne hk1
    have hA : ∀ (own : Own) o, (own.set k1 o) k = own k := fun own o => Own.set_ne _ _ (Ne.symm n1)
    have hB : ∀ (own : Own) o, (own.set k o) k1 = own k1 := fun own o => Own.set_ne _ _ n1
    exact ACs.pure (Realm_pure _ w2) (by simp (dsimp := false) only [go_sem, ↓reduceIte, Nat.reduceEqDiff, Nat.reduceLT, Nat.reduceAdd, Nat.reduceSub, Nat.reduceMul, Nat.reduceLeDiff, reduceCtorEq, Int.reduceNeg, Int.reduceToNat, Int.reduceLT, Int.reduceLE, Int.reduceGE, Int.reduceGT, Int.reduceEq, hA, hB]; simp [prinA, servP, h])
theorem rlm_val (n : Int) : realmB (rlm n) = true ∧ (rlm n).size = 3 := by
  unfold rlm
  split
  · decide
  · split <;> decide
theorem userP_val (n : Int) : validB (userP n).1 (userP n).2.1 (userP n).2.2 = true := by
  have h1 : nameB (uname n) = true := by
    unfold uname
    split
    · decide
    · split <;> decide
  have h2 : instB ⟨#[]⟩ = true := by decide
  simp [validB, userP, h1, h2, (rlm_val _).1]

/-- A text of n bytes 'n'. -/
def nS (i : Nat) : ByteArray := ⟨(List.replicate i 110).toArray⟩
theorem nS_size (i : Nat) : (nS i).size = i := by simp [nS, ByteArray.size]
theorem nS_succ (i : Nat) : nS i ++ ⟨#[110]⟩ = nS (i + 1) := by
  apply ByteArray.ext
  apply Array.ext'
  simp [nS, ByteArray.data_append, List.replicate_succ']
theorem Longest_pure (n : Nat) (hn : n ≤ 1) : PC Tryz.prog 96 [.raw (.int .i64 n)] (prinA (nS (39 - n), nS (39 - n), nS (39 - n))) := by
  refine PC.of_ac ?_
  refine AC.of_body (M := []) Tryz.func96 rfl (by kernel_rfl) (Nat.le_of_ble_eq_true rfl) ?_; simp only [Tryz.results96, Tryz.ntmps96]
  simp (dsimp := false) only [go_sem, ↓reduceIte, Nat.reduceEqDiff, Nat.reduceLT, Nat.reduceAdd, Nat.reduceSub, Nat.reduceMul, Nat.reduceLeDiff, reduceCtorEq, Int.reduceNeg, Int.reduceToNat, Int.reduceLT, Int.reduceLE, Int.reduceGE, Int.reduceGT, Int.reduceEq]
  intro k _
  refine AW.loopJ (M := []) (X := Nat) (fun i => ⟨23, tmL [(0, .raw (.int .i64 n)), (2, .raw (.pointer (some ⟨k, 0, none⟩))), (3, .raw (.string (nS i))), (4, .raw (.int .i64 i))], noOwn.set k ⟨29, [.raw (.string ⟨#[]⟩), .raw (.string ⟨#[]⟩), .raw (.string ⟨#[]⟩)], 0, 3⟩⟩)
    (fun i => i ≤ 39) (fun i => 39 - i) 0 (Nat.zero_le _) ?_ ?_
  · have : nS 0 = ⟨#[]⟩ := rfl
    rw [this]
    (refine Ghost.same ?_; (repeat' (first | exact all_nil | refine all_cons ?_ ?_)) <;> (first | (simp (dsimp := false) only [go_sem, ↓reduceIte, Nat.reduceEqDiff, Nat.reduceLT, Nat.reduceAdd, Nat.reduceSub, Nat.reduceMul, Nat.reduceLeDiff, reduceCtorEq, Int.reduceNeg, Int.reduceToNat, Int.reduceLT, Int.reduceLE, Int.reduceGE, Int.reduceGT, Int.reduceEq]; done) | (simp (dsimp := false) only [go_sem, ↓reduceIte, Nat.reduceEqDiff, Nat.reduceLT, Nat.reduceAdd, Nat.reduceSub, Nat.reduceMul, Nat.reduceLeDiff, reduceCtorEq, Int.reduceNeg, Int.reduceToNat, Int.reduceLT, Int.reduceLE, Int.reduceGE, Int.reduceGT, Int.reduceEq]; rfl)))
  · intro i hi
    by_cases hlt : (i : Int) < 39
    · have e2 : IntKind.i64.wrap ((i : Int) + 1) = ((i + 1 : Nat) : Int) := by rw [wrap_i64 (by omega) (by omega)]; omega
      have hz : ((nS i).size + (ByteArray.mk #[110]).size : Nat) ≤ (9223372036854775807 : Int) := by rw [nS_size]; simp [ByteArray.size]; omega
      simp (dsimp := false) only [go_sem, ↓reduceIte, Nat.reduceEqDiff, Nat.reduceLT, Nat.reduceAdd, Nat.reduceSub, Nat.reduceMul, Nat.reduceLeDiff, reduceCtorEq, Int.reduceNeg, Int.reduceToNat, Int.reduceLT, Int.reduceLE, Int.reduceGE, Int.reduceGT, Int.reduceEq, hlt, e2, nS_succ]
      refine ⟨hz, i + 1, by omega, ?_, by omega⟩
      (refine Ghost.same ?_; (repeat' (first | exact all_nil | refine all_cons ?_ ?_)) <;> (first | (simp (dsimp := false) only [go_sem, ↓reduceIte, Nat.reduceEqDiff, Nat.reduceLT, Nat.reduceAdd, Nat.reduceSub, Nat.reduceMul, Nat.reduceLeDiff, reduceCtorEq, Int.reduceNeg, Int.reduceToNat, Int.reduceLT, Int.reduceLE, Int.reduceGE, Int.reduceGT, Int.reduceEq]; done) | (simp (dsimp := false) only [go_sem, ↓reduceIte, Nat.reduceEqDiff, Nat.reduceLT, Nat.reduceAdd, Nat.reduceSub, Nat.reduceMul, Nat.reduceLeDiff, reduceCtorEq, Int.reduceNeg, Int.reduceToNat, Int.reduceLT, Int.reduceLE, Int.reduceGE, Int.reduceGT, Int.reduceEq]; rfl)))
    · have : i = 39 := by omega
      subst this
      have hn : n = 0 ∨ n = 1 := by omega
      have w1 : IntKind.i64.wrap (0 + 1) = 1 := by decide
      rcases hn with rfl | rfl
      · simp (dsimp := false) only [go_sem, ↓reduceIte, Nat.reduceEqDiff, Nat.reduceLT, Nat.reduceAdd, Nat.reduceSub, Nat.reduceMul, Nat.reduceLeDiff, reduceCtorEq, Int.reduceNeg, Int.reduceToNat, Int.reduceLT, Int.reduceLE, Int.reduceGE, Int.reduceGT, Int.reduceEq, hlt]
        refine AW.rounds (M := []) 2 ?_
        have c0 : ¬ ((0 : Int) < ((0 : Nat) : Int)) := by decide
        simp (dsimp := false) only [go_sem, ↓reduceIte, Nat.reduceEqDiff, Nat.reduceLT, Nat.reduceAdd, Nat.reduceSub, Nat.reduceMul, Nat.reduceLeDiff, reduceCtorEq, Int.reduceNeg, Int.reduceToNat, Int.reduceLT, Int.reduceLE, Int.reduceGE, Int.reduceGT, Int.reduceEq, c0]
        rfl
      · simp (dsimp := false) only [go_sem, ↓reduceIte, Nat.reduceEqDiff, Nat.reduceLT, Nat.reduceAdd, Nat.reduceSub, Nat.reduceMul, Nat.reduceLeDiff, reduceCtorEq, Int.reduceNeg, Int.reduceToNat, Int.reduceLT, Int.reduceLE, Int.reduceGE, Int.reduceGT, Int.reduceEq, hlt]
        refine AW.rounds (M := []) 2 ?_
        have c0 : ((0 : Int) < ((1 : Nat) : Int)) := by decide
        have c1 : ¬ ((1 : Int) < ((1 : Nat) : Int)) := by decide
        simp (dsimp := false) only [go_sem, ↓reduceIte, Nat.reduceEqDiff, Nat.reduceLT, Nat.reduceAdd, Nat.reduceSub, Nat.reduceMul, Nat.reduceLeDiff, reduceCtorEq, Int.reduceNeg, Int.reduceToNat, Int.reduceLT, Int.reduceLE, Int.reduceGE, Int.reduceGT, Int.reduceEq, c0, c1, w1]
        have he : (nS 39).extract 0 38 = nS 38 := by decide
        rw [he]
        first | rfl | exact ⟨by decide, rfl⟩

/-- The source of numbers as an object. -/
def srcO (bs : List UInt8) (at_ : Int) : OB := ⟨134, [.lst 1 (bs.map byteA), .raw (.int .i64 at_)], 0, 2⟩
/-- The next number, and the index behind it. -/
def srcN (bs : List UInt8) (at_ n : Int) : Int × Int := if at_ ≥ (bs.length : Int) then (0, at_) else (Int.tmod ((bs.getD at_.toNat 0).toNat : Int) n, at_ + 1)
theorem srcN_ok {bs : List UInt8} {at_ n : Int} {y : Int × Int} (e : srcN bs at_ n = y) (h0 : 0 ≤ at_) (h1 : at_ ≤ bs.length) (hn : 0 < n) : (0 ≤ y.1 ∧ y.1 < n) ∧ 0 ≤ y.2 ∧ y.2 ≤ bs.length := by
  subst e
  unfold srcN
  split
  · exact ⟨⟨Int.le_refl _, hn⟩, h0, h1⟩
  · refine ⟨?_, by simp only; omega, by simp only; omega⟩
    simp only
    rw [Int.tmod_eq_emod_of_nonneg (by omega)]
    exact ⟨Int.emod_nonneg _ (by omega), Int.emod_lt_of_pos _ hn⟩
set_option maxHeartbeats 4000000 in
theorem Next_own (bs : List UInt8) (at_ : Int) (n : Int) (k : Nat) (own : Own) (K : AV → Own → Prop) (hk : own k = some (srcO bs at_)) (h0 : 0 ≤ at_) (h1 : at_ ≤ bs.length) (hb : bs.length ≤ 140737488355328) (hn : 0 < n) (hn' : n ≤ 2147483648)
    (h : K (.raw (.int .i64 (srcN bs at_ n).1)) (own.set k (srcO bs (srcN bs at_ n).2))) : AC Tryz.prog 94 [.raw (.pointer (some ⟨k, 0, none⟩)), .raw (.int .i64 n)] own K := by
  have hid : own.set k (srcO bs at_) = own := by
    funext j
    simp only [Own.set]
    split
    · rename_i e; rw [e, hk]
    · rfl
  unfold srcO at hk
  unfold srcN at h
  refine AC.of_body (M := []) Tryz.func94 rfl (by kernel_rfl) (Nat.le_of_ble_eq_true rfl) ?_; simp only [Tryz.results94, Tryz.ntmps94]
  simp (dsimp := false) only [go_sem, ↓reduceIte, Nat.reduceEqDiff, Nat.reduceLT, Nat.reduceAdd, Nat.reduceSub, Nat.reduceMul, Nat.reduceLeDiff, reduceCtorEq, Int.reduceNeg, Int.reduceToNat, Int.reduceLT, Int.reduceLE, Int.reduceGE, Int.reduceGT, Int.reduceEq]
  refine AW.draw (M := []) [.v, .v, .v, .r, .v, .v, .v, .r, .v, .v, .v, .v, .v, .v] mixed (by kernel_rfl) ?_
  by_cases h3 : at_ ≥ (bs.length : Int)
  · rw [if_pos h3, hid] at h
    simp (dsimp := false) only [go_sem, ↓reduceIte, Nat.reduceEqDiff, Nat.reduceLT, Nat.reduceAdd, Nat.reduceSub, Nat.reduceMul, Nat.reduceLeDiff, reduceCtorEq, Int.reduceNeg, Int.reduceToNat, Int.reduceLT, Int.reduceLE, Int.reduceGE, Int.reduceGT, Int.reduceEq, hk, h3]
    exact h
  · have h4 : ¬ n ≤ 0 := by omega
    rw [if_neg h3] at h
    simp (dsimp := false) only [go_sem, ↓reduceIte, Nat.reduceEqDiff, Nat.reduceLT, Nat.reduceAdd, Nat.reduceSub, Nat.reduceMul, Nat.reduceLeDiff, reduceCtorEq, Int.reduceNeg, Int.reduceToNat, Int.reduceLT, Int.reduceLE, Int.reduceGE, Int.reduceGT, Int.reduceEq, hk, h3, h4]
    refine AW.draw (M := []) [.v, .v, .v, .r, .v, .v, .v, .r, .v, .v, .v, .v, .v, .v] mixed (by kernel_rfl) ?_
    have hg : (bs.map byteA).getD at_.toNat .any = .raw (.int .u8 ((bs.getD at_.toNat 0).toNat)) := by rw [getD_byte (by omega)]; rfl
    have hc := (bs.getD at_.toNat 0).toNat_lt
    generalize bs.getD at_.toNat 0 = c at *
    have e3 : IntKind.i64.wrap (c.toNat : Int) = c.toNat := wrap_i64 (by omega) (by omega)
    have e4 : IntKind.i64.wrap (at_ + 1) = at_ + 1 := wrap_i64 (by omega) (by omega)
    have hn0 : n ≠ 0 := by omega
    simp (dsimp := false) only [go_sem, ↓reduceIte, Nat.reduceEqDiff, Nat.reduceLT, Nat.reduceAdd, Nat.reduceSub, Nat.reduceMul, Nat.reduceLeDiff, reduceCtorEq, Int.reduceNeg, Int.reduceToNat, Int.reduceLT, Int.reduceLE, Int.reduceGE, Int.reduceGT, Int.reduceEq, hk, hg, e3, e4, hn0]
    exact ⟨by omega, h⟩
end Go.Proofs.YtghnigbihllnmaaGreat.Fn
