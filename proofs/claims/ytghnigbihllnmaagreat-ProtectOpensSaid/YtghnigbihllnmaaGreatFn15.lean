/- The cursor that reads the fields of a message. -/
import Derived.Test.YtghnigbihllnmaaGreatHlC
import Derived.Test.YtghnigbihllnmaaGreatSp1
import Derived.Test.YtghnigbihllnmaaGreatTy
import Derived.Test.YtghnigbihllnmaaGreatFn3
import Derived.Test.YtghnigbihllnmaaGreatFn5
import Derived.Test.YtghnigbihllnmaaGreatFn8
import Derived.Test.YtghnigbihllnmaaGreatFn9
set_option linter.unusedVariables false
set_option linter.unusedSimpArgs false
namespace Go.Proofs.YtghnigbihllnmaaGreat.Fn
open Go Hl Sp Ty
set_option maxRecDepth 100000

theorem take_err (b : List UInt8) (at_ n : Int) (h0 : 0 ≤ at_) (h1 : at_ ≤ b.length) (h2 : 0 ≤ n) (h3 : n > (b.length : Int) - at_) (hn : b.length ≤ 140737488355000) :
    PC Tryz.prog 175 [.lst 1 (b.map byteA), .raw (.int .i64 at_), .raw (.int .i64 n)] (.tup [.raw (.slice none 0 0), .raw (.int .i64 0), .raw (.int .i64 101)]) := by
  refine PC.of_ac ?_
  refine AC.of_body (M := []) Tryz.func175 rfl (by kernel_rfl) (Nat.le_of_ble_eq_true rfl) ?_; simp only [Tryz.results175, Tryz.ntmps175]
  have c1 : ¬ at_ < 0 := by omega
  have c2 : ¬ at_ > (b.length : Int) := by omega
  have c3 : ¬ n < 0 := by omega
  have e1 : IntKind.i64.wrap ((b.length : Int) - at_) = b.length - at_ := wrap_i64 (by omega) (by omega)
  simp (dsimp := false) only [go_sem, ↓reduceIte, Nat.reduceEqDiff, Nat.reduceLT, Nat.reduceAdd, Nat.reduceSub, Nat.reduceMul, Nat.reduceLeDiff, reduceCtorEq, Int.reduceNeg, Int.reduceToNat, Int.reduceLT, Int.reduceLE, Int.reduceGE, Int.reduceGT, Int.reduceEq, c1, c2, c3, e1, h3]
/-- A number that is read where there may be one. -/
def readN (b : List UInt8) (at_ : Int) (size : Nat) (little : Bool) : Int × Int × Int :=
  if at_ + size ≤ b.length then (((readV ((b.drop at_.toNat).take size) little : Nat) : Int), at_ + size, 0) else (0, 0, 101)
theorem read_tot (b : List UInt8) (at_ : Int) (size : Nat) (little : Bool) (h0 : 0 ≤ at_) (h1 : at_ ≤ b.length) (hs : size ≤ 4) (hn : b.length ≤ 140737488355000) :
    PC Tryz.prog 172 [.lst 1 (b.map byteA), .raw (.int .i64 at_), .raw (.int .i64 size), .raw (.bool little)] (.tup [.raw (.int .i64 (readN b at_ size little).1), .raw (.int .i64 (readN b at_ size little).2.1), .raw (.int .i64 (readN b at_ size little).2.2)]) := by
  by_cases h : at_ + size ≤ b.length
  · rw [readN, if_pos h]
    exact read_ok b at_ size little h0 hs h hn
  · rw [readN, if_neg h]
    refine PC.of_ac ?_
    refine AC.of_body (M := []) Tryz.func172 rfl (by kernel_rfl) (Nat.le_of_ble_eq_true rfl) ?_; simp only [Tryz.results172, Tryz.ntmps172]
    simp (dsimp := false) only [go_sem, ↓reduceIte, Nat.reduceEqDiff, Nat.reduceLT, Nat.reduceAdd, Nat.reduceSub, Nat.reduceMul, Nat.reduceLeDiff, reduceCtorEq, Int.reduceNeg, Int.reduceToNat, Int.reduceLT, Int.reduceLE, Int.reduceGE, Int.reduceGT, Int.reduceEq]
    refine ACs.pure (take_err b at_ size h0 h1 (by omega) (by omega) hn) ?_
    simp (dsimp := false) only [go_sem, ↓reduceIte, Nat.reduceEqDiff, Nat.reduceLT, Nat.reduceAdd, Nat.reduceSub, Nat.reduceMul, Nat.reduceLeDiff, reduceCtorEq, Int.reduceNeg, Int.reduceToNat, Int.reduceLT, Int.reduceLE, Int.reduceGE, Int.reduceGT, Int.reduceEq]
theorem Number_tot (b : List UInt8) (at_ : Int) (little : Bool) (h0 : 0 ≤ at_) (h1 : at_ ≤ b.length) (hn : b.length ≤ 140737488355000) :
    PC Tryz.prog 133 [.lst 1 (b.map byteA), .raw (.int .i64 at_), .raw (.bool little)] (.tup [.raw (.int .i64 (readN b at_ 4 little).1), .raw (.int .i64 (readN b at_ 4 little).2.1), .raw (.int .i64 (readN b at_ 4 little).2.2)]) := by
  refine PC.of_ac ?_
  refine AC.of_body (M := []) Tryz.func133 rfl (by kernel_rfl) (Nat.le_of_ble_eq_true rfl) ?_; simp only [Tryz.results133, Tryz.ntmps133]
  have h := read_tot b at_ 4 little h0 h1 (by omega) hn
  rw [show ((4 : Nat) : Int) = 4 from rfl] at h
  simp (dsimp := false) only [go_sem, ↓reduceIte, Nat.reduceEqDiff, Nat.reduceLT, Nat.reduceAdd, Nat.reduceSub, Nat.reduceMul, Nat.reduceLeDiff, reduceCtorEq, Int.reduceNeg, Int.reduceToNat, Int.reduceLT, Int.reduceLE, Int.reduceGE, Int.reduceGT, Int.reduceEq]
  exact ACs.pure h (by simp (dsimp := false) only [go_sem, ↓reduceIte, Nat.reduceEqDiff, Nat.reduceLT, Nat.reduceAdd, Nat.reduceSub, Nat.reduceMul, Nat.reduceLeDiff, reduceCtorEq, Int.reduceNeg, Int.reduceToNat, Int.reduceLT, Int.reduceLE, Int.reduceGE, Int.reduceGT, Int.reduceEq])
theorem Short_tot (b : List UInt8) (at_ : Int) (little : Bool) (h0 : 0 ≤ at_) (h1 : at_ ≤ b.length) (hn : b.length ≤ 140737488355000) :
    PC Tryz.prog 147 [.lst 1 (b.map byteA), .raw (.int .i64 at_), .raw (.bool little)] (.tup [.raw (.int .i64 (readN b at_ 2 little).1), .raw (.int .i64 (readN b at_ 2 little).2.1), .raw (.int .i64 (readN b at_ 2 little).2.2)]) := by
  refine PC.of_ac ?_
  refine AC.of_body (M := []) Tryz.func147 rfl (by kernel_rfl) (Nat.le_of_ble_eq_true rfl) ?_; simp only [Tryz.results147, Tryz.ntmps147]
  have h := read_tot b at_ 2 little h0 h1 (by omega) hn
  rw [show ((2 : Nat) : Int) = 2 from rfl] at h
  simp (dsimp := false) only [go_sem, ↓reduceIte, Nat.reduceEqDiff, Nat.reduceLT, Nat.reduceAdd, Nat.reduceSub, Nat.reduceMul, Nat.reduceLeDiff, reduceCtorEq, Int.reduceNeg, Int.reduceToNat, Int.reduceLT, Int.reduceLE, Int.reduceGE, Int.reduceGT, Int.reduceEq]
  exact ACs.pure h (by simp (dsimp := false) only [go_sem, ↓reduceIte, Nat.reduceEqDiff, Nat.reduceLT, Nat.reduceAdd, Nat.reduceSub, Nat.reduceMul, Nat.reduceLeDiff, reduceCtorEq, Int.reduceNeg, Int.reduceToNat, Int.reduceLT, Int.reduceLE, Int.reduceGE, Int.reduceGT, Int.reduceEq])
theorem Octet_tot (b : List UInt8) (at_ : Int) (h0 : 0 ≤ at_) (h1 : at_ ≤ b.length) (hn : b.length ≤ 140737488355000) :
    PC Tryz.prog 135 [.lst 1 (b.map byteA), .raw (.int .i64 at_)] (.tup [.raw (.int .i64 (readN b at_ 1 false).1), .raw (.int .i64 (readN b at_ 1 false).2.1), .raw (.int .i64 (readN b at_ 1 false).2.2)]) := by
  refine PC.of_ac ?_
  refine AC.of_body (M := []) Tryz.func135 rfl (by kernel_rfl) (Nat.le_of_ble_eq_true rfl) ?_; simp only [Tryz.results135, Tryz.ntmps135]
  have h := read_tot b at_ 1 false h0 h1 (by omega) hn
  rw [show ((1 : Nat) : Int) = 1 from rfl] at h
  simp (dsimp := false) only [go_sem, ↓reduceIte, Nat.reduceEqDiff, Nat.reduceLT, Nat.reduceAdd, Nat.reduceSub, Nat.reduceMul, Nat.reduceLeDiff, reduceCtorEq, Int.reduceNeg, Int.reduceToNat, Int.reduceLT, Int.reduceLE, Int.reduceGE, Int.reduceGT, Int.reduceEq]
  exact ACs.pure h (by simp (dsimp := false) only [go_sem, ↓reduceIte, Nat.reduceEqDiff, Nat.reduceLT, Nat.reduceAdd, Nat.reduceSub, Nat.reduceMul, Nat.reduceLeDiff, reduceCtorEq, Int.reduceNeg, Int.reduceToNat, Int.reduceLT, Int.reduceLE, Int.reduceGE, Int.reduceGT, Int.reduceEq])

theorem set_self {own : Own} {k : Nat} {o : OB} (hk : own k = some o) : own.set k o = own := by
  funext j
  simp only [Own.set]
  split
  · rename_i e; rw [e, hk]
  · rfl
/-- The cursor as an object. -/
def curO (b : List UInt8) (little : Bool) (s : Int × Bool) : OB := ⟨160, [.lst 1 (b.map byteA), .raw (.int .i64 s.1), .raw (.bool little), .raw (.bool s.2)], 0, 4⟩
/-- The cursor's state behind a field. -/
def nextC (s : Int × Bool) (at' e : Int) : Int × Bool := if s.2 then s else if e ≠ 0 then (s.1, true) else (at', false)
def nextI (s : Int × Bool) (x e : Int) : Int := if s.2 then 0 else if e ≠ 0 then 0 else x
theorem nextInt_own (b : List UInt8) (little : Bool) (s : Int × Bool) (k : Nat) (own : Own) (K : AV → Own → Prop) (hk : own k = some (curO b little s)) (f : Nat) (cap : List AV) (x at' e : Int)
    (hf : ∀ K' : AV → Own → Prop, K' (.tup [.raw (.int .i64 x), .raw (.int .i64 at'), .raw (.int .i64 e)]) own → AC Tryz.prog f (.raw (.int .i64 s.1) :: cap) own K')
    (h : K (.raw (.int .i64 (nextI s x e))) (own.set k (curO b little (nextC s at' e)))) :
    AC Tryz.prog 131 [.raw (.pointer (some ⟨k, 0, none⟩)), .clo (.func f) [] cap] own K := by
  have hid := set_self hk
  obtain ⟨at_, bad⟩ := s
  unfold curO at hk
  refine AC.of_body (M := []) Tryz.func131 rfl (by kernel_rfl) (Nat.le_of_ble_eq_true rfl) ?_; simp only [Tryz.results131, Tryz.ntmps131]
  cases bad
  · simp (dsimp := false) only [go_sem, ↓reduceIte, Nat.reduceEqDiff, Nat.reduceLT, Nat.reduceAdd, Nat.reduceSub, Nat.reduceMul, Nat.reduceLeDiff, reduceCtorEq, Int.reduceNeg, Int.reduceToNat, Int.reduceLT, Int.reduceLE, Int.reduceGE, Int.reduceGT, Int.reduceEq, hk]
    refine ACs.of (hf _ ?_)
    by_cases he : e = 0
    · simp only [nextI, nextC, he, Bool.false_eq_true, if_false, ne_eq, not_true_eq_false] at h
      simp (dsimp := false) only [go_sem, ↓reduceIte, Nat.reduceEqDiff, Nat.reduceLT, Nat.reduceAdd, Nat.reduceSub, Nat.reduceMul, Nat.reduceLeDiff, reduceCtorEq, Int.reduceNeg, Int.reduceToNat, Int.reduceLT, Int.reduceLE, Int.reduceGE, Int.reduceGT, Int.reduceEq, hk, he]
      exact h
    · simp only [nextI, nextC, he, Bool.false_eq_true, if_false, ne_eq, not_false_eq_true, if_true] at h
      simp (dsimp := false) only [go_sem, ↓reduceIte, Nat.reduceEqDiff, Nat.reduceLT, Nat.reduceAdd, Nat.reduceSub, Nat.reduceMul, Nat.reduceLeDiff, reduceCtorEq, Int.reduceNeg, Int.reduceToNat, Int.reduceLT, Int.reduceLE, Int.reduceGE, Int.reduceGT, Int.reduceEq, hk, he]
      exact h
  · simp (dsimp := false) only [go_sem, ↓reduceIte, Nat.reduceEqDiff, Nat.reduceLT, Nat.reduceAdd, Nat.reduceSub, Nat.reduceMul, Nat.reduceLeDiff, reduceCtorEq, Int.reduceNeg, Int.reduceToNat, Int.reduceLT, Int.reduceLE, Int.reduceGE, Int.reduceGT, Int.reduceEq, hk]
    simp only [nextI, nextC, if_true] at h
    rw [hid] at h
    exact h
def cNum (b : List UInt8) (size : Nat) (little : Bool) (s : Int × Bool) : Int × (Int × Bool) := (nextI s (readN b s.1 size little).1 (readN b s.1 size little).2.2, nextC s (readN b s.1 size little).2.1 (readN b s.1 size little).2.2)
theorem COctet_own (b : List UInt8) (little : Bool) (s : Int × Bool) (k : Nat) (own : Own) (K : AV → Own → Prop) (hk : own k = some (curO b little s)) (h0 : 0 ≤ s.1) (h1 : s.1 ≤ b.length) (hn : b.length ≤ 140737488355000)
    (h : K (.raw (.int .i64 (cNum b 1 false s).1)) (own.set k (curO b little (cNum b 1 false s).2))) :
    AC Tryz.prog 74 [.raw (.pointer (some ⟨k, 0, none⟩))] own K := by
  refine AC.of_body (M := []) Tryz.func74 rfl (by kernel_rfl) (Nat.le_of_ble_eq_true rfl) ?_; simp only [Tryz.results74, Tryz.ntmps74]
  simp (dsimp := false) only [go_sem, ↓reduceIte, Nat.reduceEqDiff, Nat.reduceLT, Nat.reduceAdd, Nat.reduceSub, Nat.reduceMul, Nat.reduceLeDiff, reduceCtorEq, Int.reduceNeg, Int.reduceToNat, Int.reduceLT, Int.reduceLE, Int.reduceGE, Int.reduceGT, Int.reduceEq]
  refine ACs.of (nextInt_own b little s k own _ hk _ _ (readN b s.1 1 false).1 (readN b s.1 1 false).2.1 (readN b s.1 1 false).2.2 ?_ ?_)
  · intro K' hK'
    unfold curO at hk
    refine AC.of_body (M := []) Tryz.func134 rfl (by kernel_rfl) (Nat.le_of_ble_eq_true rfl) ?_; simp only [Tryz.results134, Tryz.ntmps134]
    simp (dsimp := false) only [go_sem, ↓reduceIte, Nat.reduceEqDiff, Nat.reduceLT, Nat.reduceAdd, Nat.reduceSub, Nat.reduceMul, Nat.reduceLeDiff, reduceCtorEq, Int.reduceNeg, Int.reduceToNat, Int.reduceLT, Int.reduceLE, Int.reduceGE, Int.reduceGT, Int.reduceEq, hk]
    refine ACs.pure (Octet_tot b s.1 h0 h1 hn) ?_
    simp (dsimp := false) only [go_sem, ↓reduceIte, Nat.reduceEqDiff, Nat.reduceLT, Nat.reduceAdd, Nat.reduceSub, Nat.reduceMul, Nat.reduceLeDiff, reduceCtorEq, Int.reduceNeg, Int.reduceToNat, Int.reduceLT, Int.reduceLE, Int.reduceGE, Int.reduceGT, Int.reduceEq]
    exact hK'
  · simp (dsimp := false) only [go_sem, ↓reduceIte, Nat.reduceEqDiff, Nat.reduceLT, Nat.reduceAdd, Nat.reduceSub, Nat.reduceMul, Nat.reduceLeDiff, reduceCtorEq, Int.reduceNeg, Int.reduceToNat, Int.reduceLT, Int.reduceLE, Int.reduceGE, Int.reduceGT, Int.reduceEq]
    exact h
theorem CNumber_own (b : List UInt8) (little : Bool) (s : Int × Bool) (k : Nat) (own : Own) (K : AV → Own → Prop) (hk : own k = some (curO b little s)) (h0 : 0 ≤ s.1) (h1 : s.1 ≤ b.length) (hn : b.length ≤ 140737488355000)
    (h : K (.raw (.int .i64 (cNum b 4 little s).1)) (own.set k (curO b little (cNum b 4 little s).2))) :
    AC Tryz.prog 73 [.raw (.pointer (some ⟨k, 0, none⟩))] own K := by
  refine AC.of_body (M := []) Tryz.func73 rfl (by kernel_rfl) (Nat.le_of_ble_eq_true rfl) ?_; simp only [Tryz.results73, Tryz.ntmps73]
  simp (dsimp := false) only [go_sem, ↓reduceIte, Nat.reduceEqDiff, Nat.reduceLT, Nat.reduceAdd, Nat.reduceSub, Nat.reduceMul, Nat.reduceLeDiff, reduceCtorEq, Int.reduceNeg, Int.reduceToNat, Int.reduceLT, Int.reduceLE, Int.reduceGE, Int.reduceGT, Int.reduceEq]
  refine ACs.of (nextInt_own b little s k own _ hk _ _ (readN b s.1 4 little).1 (readN b s.1 4 little).2.1 (readN b s.1 4 little).2.2 ?_ ?_)
  · intro K' hK'
    unfold curO at hk
    refine AC.of_body (M := []) Tryz.func132 rfl (by kernel_rfl) (Nat.le_of_ble_eq_true rfl) ?_; simp only [Tryz.results132, Tryz.ntmps132]
    simp (dsimp := false) only [go_sem, ↓reduceIte, Nat.reduceEqDiff, Nat.reduceLT, Nat.reduceAdd, Nat.reduceSub, Nat.reduceMul, Nat.reduceLeDiff, reduceCtorEq, Int.reduceNeg, Int.reduceToNat, Int.reduceLT, Int.reduceLE, Int.reduceGE, Int.reduceGT, Int.reduceEq, hk]
    (try refine AW.draw (M := []) [.v, .v, .v, .r, .v, .v, .v, .v, .r, .e, .v, .v, .v, .v, .v, .v] mixed (by kernel_rfl) ?_)
    (try simp (dsimp := false) only [go_sem, ↓reduceIte, Nat.reduceEqDiff, Nat.reduceLT, Nat.reduceAdd, Nat.reduceSub, Nat.reduceMul, Nat.reduceLeDiff, reduceCtorEq, Int.reduceNeg, Int.reduceToNat, Int.reduceLT, Int.reduceLE, Int.reduceGE, Int.reduceGT, Int.reduceEq, hk])
    refine ACs.pure (Number_tot b s.1 little h0 h1 hn) ?_
    simp (dsimp := false) only [go_sem, ↓reduceIte, Nat.reduceEqDiff, Nat.reduceLT, Nat.reduceAdd, Nat.reduceSub, Nat.reduceMul, Nat.reduceLeDiff, reduceCtorEq, Int.reduceNeg, Int.reduceToNat, Int.reduceLT, Int.reduceLE, Int.reduceGE, Int.reduceGT, Int.reduceEq]
    exact hK'
  · simp (dsimp := false) only [go_sem, ↓reduceIte, Nat.reduceEqDiff, Nat.reduceLT, Nat.reduceAdd, Nat.reduceSub, Nat.reduceMul, Nat.reduceLeDiff, reduceCtorEq, Int.reduceNeg, Int.reduceToNat, Int.reduceLT, Int.reduceLE, Int.reduceGE, Int.reduceGT, Int.reduceEq]
    exact h
theorem CShort_own (b : List UInt8) (little : Bool) (s : Int × Bool) (k : Nat) (own : Own) (K : AV → Own → Prop) (hk : own k = some (curO b little s)) (h0 : 0 ≤ s.1) (h1 : s.1 ≤ b.length) (hn : b.length ≤ 140737488355000)
    (h : K (.raw (.int .i64 (cNum b 2 little s).1)) (own.set k (curO b little (cNum b 2 little s).2))) :
    AC Tryz.prog 83 [.raw (.pointer (some ⟨k, 0, none⟩))] own K := by
  refine AC.of_body (M := []) Tryz.func83 rfl (by kernel_rfl) (Nat.le_of_ble_eq_true rfl) ?_; simp only [Tryz.results83, Tryz.ntmps83]
  simp (dsimp := false) only [go_sem, ↓reduceIte, Nat.reduceEqDiff, Nat.reduceLT, Nat.reduceAdd, Nat.reduceSub, Nat.reduceMul, Nat.reduceLeDiff, reduceCtorEq, Int.reduceNeg, Int.reduceToNat, Int.reduceLT, Int.reduceLE, Int.reduceGE, Int.reduceGT, Int.reduceEq]
  refine ACs.of (nextInt_own b little s k own _ hk _ _ (readN b s.1 2 little).1 (readN b s.1 2 little).2.1 (readN b s.1 2 little).2.2 ?_ ?_)
  · intro K' hK'
    unfold curO at hk
    refine AC.of_body (M := []) Tryz.func146 rfl (by kernel_rfl) (Nat.le_of_ble_eq_true rfl) ?_; simp only [Tryz.results146, Tryz.ntmps146]
    simp (dsimp := false) only [go_sem, ↓reduceIte, Nat.reduceEqDiff, Nat.reduceLT, Nat.reduceAdd, Nat.reduceSub, Nat.reduceMul, Nat.reduceLeDiff, reduceCtorEq, Int.reduceNeg, Int.reduceToNat, Int.reduceLT, Int.reduceLE, Int.reduceGE, Int.reduceGT, Int.reduceEq, hk]
    (try refine AW.draw (M := []) [.v, .v, .v, .r, .v, .v, .v, .v, .r, .e, .v, .v, .v, .v, .v, .v] mixed (by kernel_rfl) ?_)
    (try simp (dsimp := false) only [go_sem, ↓reduceIte, Nat.reduceEqDiff, Nat.reduceLT, Nat.reduceAdd, Nat.reduceSub, Nat.reduceMul, Nat.reduceLeDiff, reduceCtorEq, Int.reduceNeg, Int.reduceToNat, Int.reduceLT, Int.reduceLE, Int.reduceGE, Int.reduceGT, Int.reduceEq, hk])
    refine ACs.pure (Short_tot b s.1 little h0 h1 hn) ?_
    simp (dsimp := false) only [go_sem, ↓reduceIte, Nat.reduceEqDiff, Nat.reduceLT, Nat.reduceAdd, Nat.reduceSub, Nat.reduceMul, Nat.reduceLeDiff, reduceCtorEq, Int.reduceNeg, Int.reduceToNat, Int.reduceLT, Int.reduceLE, Int.reduceGE, Int.reduceGT, Int.reduceEq]
    exact hK'
  · simp (dsimp := false) only [go_sem, ↓reduceIte, Nat.reduceEqDiff, Nat.reduceLT, Nat.reduceAdd, Nat.reduceSub, Nat.reduceMul, Nat.reduceLeDiff, reduceCtorEq, Int.reduceNeg, Int.reduceToNat, Int.reduceLT, Int.reduceLE, Int.reduceGE, Int.reduceGT, Int.reduceEq]
    exact h
theorem nextC_ok {b : List UInt8} {s : Int × Bool} {at' e : Int} (h0 : 0 ≤ s.1) (h1 : s.1 ≤ b.length) (h : e = 0 → 0 ≤ at' ∧ at' ≤ b.length) : 0 ≤ (nextC s at' e).1 ∧ (nextC s at' e).1 ≤ b.length := by
  unfold nextC
  split
  · exact ⟨h0, h1⟩
  · split
    · exact ⟨h0, h1⟩
    · rename_i he; exact h (by simpa using he)
theorem cNum_ok {b : List UInt8} {size : Nat} {little : Bool} {s : Int × Bool} (h0 : 0 ≤ s.1) (h1 : s.1 ≤ b.length) : 0 ≤ (cNum b size little s).2.1 ∧ (cNum b size little s).2.1 ≤ b.length := by
  refine nextC_ok h0 h1 fun h => ?_
  unfold readN at h ⊢
  split
  · simp only; omega
  · rename_i hs; rw [if_neg hs] at h; simp at h
theorem textR_ok {b : List UInt8} {at_ : Int} (h : (textR b at_).2.2 = 0) : 0 ≤ (textR b at_).2.1 ∧ (textR b at_).2.1 ≤ b.length := by
  unfold textR at h ⊢
  split
  · rename_i hc; rw [if_pos hc] at h; simp at h
  · rename_i hc
    rw [if_neg hc] at h
    simp only at h ⊢
    have hle := indexByte_le ((b.drop at_.toNat).take 40) 0
    have hl : ((b.drop at_.toNat).take 40).length ≤ b.length - at_.toNat := by simp; omega
    split
    · simp only; omega
    · rename_i hc2
      rw [if_neg hc2] at h
      split at h <;> simp at h
def nextP (s : Int × Bool) (x : ByteArray × ByteArray × ByteArray) (e : Int) : ByteArray × ByteArray × ByteArray := if s.2 then (⟨#[]⟩, ⟨#[]⟩, ⟨#[]⟩) else if e ≠ 0 then (⟨#[]⟩, ⟨#[]⟩, ⟨#[]⟩) else x
def cPrin (b : List UInt8) (s : Int × Bool) : (ByteArray × ByteArray × ByteArray) × (Int × Bool) := (nextP s (prinR b s.1).1 (prinR b s.1).2.2, nextC s (prinR b s.1).2.1 (prinR b s.1).2.2)
set_option maxHeartbeats 4000000 in
theorem nextPrin_own (b : List UInt8) (little : Bool) (s : Int × Bool) (k : Nat) (own : Own) (K : AV → Own → Prop) (hk : own k = some (curO b little s)) (f : Nat) (cap : List AV) (x : ByteArray × ByteArray × ByteArray) (at' e : Int)
    (hf : ∀ (own1 : Own) (K' : AV → Own → Prop), own1 k = some (curO b little s) → K' (.tup [prinA x, .raw (.int .i64 at'), .raw (.int .i64 e)]) own1 → AC Tryz.prog f (.raw (.int .i64 s.1) :: cap) own1 K')
    (h : K (prinA (nextP s x e)) (own.set k (curO b little (nextC s at' e)))) :
    AC Tryz.prog 128 [.raw (.pointer (some ⟨k, 0, none⟩)), .clo (.func f) [] cap] own K := by
  refine AC.sub ?_ h
  have hid := set_self hk
  have hk' := hk
  obtain ⟨at_, bad⟩ := s
  obtain ⟨x1, x2, x3⟩ := x
  unfold curO at hk
  refine AC.of_body (M := []) Tryz.func128 rfl (by kernel_rfl) (Nat.le_of_ble_eq_true rfl) ?_; simp only [Tryz.results128, Tryz.ntmps128]
  simp (dsimp := false) only [go_sem, ↓reduceIte, Nat.reduceEqDiff, Nat.reduceLT, Nat.reduceAdd, Nat.reduceSub, Nat.reduceMul, Nat.reduceLeDiff, reduceCtorEq, Int.reduceNeg, Int.reduceToNat, Int.reduceLT, Int.reduceLE, Int.reduceGE, Int.reduceGT, Int.reduceEq]
  intro k1 hk1 k2 hk2
  have n1 := none_ne hk2
  rw [Own.set_ne _ _ n1] at hk2
  have m1 := some_ne hk' hk1
  have m2 := some_ne hk' hk2
  have a1 : ∀ (own : Own) o, (own.set k1 o) k = own k := fun own o => Own.set_ne _ _ (Ne.symm m1)
  have a2 : ∀ (own : Own) o, (own.set k2 o) k = own k := fun own o => Own.set_ne _ _ (Ne.symm m2)
  have a3 : ∀ (own : Own) o, (own.set k2 o) k1 = own k1 := fun own o => Own.set_ne _ _ (Ne.symm n1)
  have a4 : ∀ (own : Own) o, (own.set k1 o) k2 = own k2 := fun own o => Own.set_ne _ _ n1
  have a5 : ∀ (own : Own) o, (own.set k o) k1 = own k1 := fun own o => Own.set_ne _ _ m1
  have a6 : ∀ (own : Own) o, (own.set k o) k2 = own k2 := fun own o => Own.set_ne _ _ m2
  have f1 : ∀ o, (own.set k o) k1 = none := fun o => (a5 _ _).trans hk1
  have f2 : ∀ o, (own.set k o) k2 = none := fun o => (a6 _ _).trans hk2
  cases bad
  · simp (dsimp := false) only [go_sem, ↓reduceIte, Nat.reduceEqDiff, Nat.reduceLT, Nat.reduceAdd, Nat.reduceSub, Nat.reduceMul, Nat.reduceLeDiff, reduceCtorEq, Int.reduceNeg, Int.reduceToNat, Int.reduceLT, Int.reduceLE, Int.reduceGE, Int.reduceGT, Int.reduceEq, hk, a1, a2, a3, a4, a5, a6]
    refine ACs.of (hf _ _ ((a2 _ _).trans ((a1 _ _).trans hk')) ?_)
    simp (dsimp := false) only [go_sem, ↓reduceIte, Nat.reduceEqDiff, Nat.reduceLT, Nat.reduceAdd, Nat.reduceSub, Nat.reduceMul, Nat.reduceLeDiff, reduceCtorEq, Int.reduceNeg, Int.reduceToNat, Int.reduceLT, Int.reduceLE, Int.reduceGE, Int.reduceGT, Int.reduceEq, prinA]
    intro k3 hk3
    have n2 := none_ne hk3
    rw [Own.set_ne _ _ n2] at hk3
    have n3 := none_ne hk3
    rw [Own.set_ne _ _ n3] at hk3
    have m3 := some_ne hk' hk3
    have b1 : ∀ (own : Own) o, (own.set k3 o) k = own k := fun own o => Own.set_ne _ _ (Ne.symm m3)
    have b2 : ∀ (own : Own) o, (own.set k3 o) k1 = own k1 := fun own o => Own.set_ne _ _ (Ne.symm n3)
    have b3 : ∀ (own : Own) o, (own.set k3 o) k2 = own k2 := fun own o => Own.set_ne _ _ (Ne.symm n2)
    have b4 : ∀ (own : Own) o, (own.set k o) k3 = own k3 := fun own o => Own.set_ne _ _ m3
    have b5 : ∀ (own : Own) o, (own.set k1 o) k3 = own k3 := fun own o => Own.set_ne _ _ n3
    have b6 : ∀ (own : Own) o, (own.set k2 o) k3 = own k3 := fun own o => Own.set_ne _ _ n2
    have f3 : ∀ o, (own.set k o) k3 = none := fun o => (b4 _ _).trans hk3
    by_cases he : e = 0
    · simp (dsimp := false) only [go_sem, ↓reduceIte, Nat.reduceEqDiff, Nat.reduceLT, Nat.reduceAdd, Nat.reduceSub, Nat.reduceMul, Nat.reduceLeDiff, reduceCtorEq, Int.reduceNeg, Int.reduceToNat, Int.reduceLT, Int.reduceLE, Int.reduceGE, Int.reduceGT, Int.reduceEq, hk, he, a1, a2, a3, a4, a5, a6, b1, b2, b3, b4, b5, b6]
      refine ⟨by simp [prinA, nextP, he], ?_⟩
      simp only [nextC, he, Bool.false_eq_true, if_false, ne_eq, not_true_eq_false]
      exact Sub.fresh (f1 _) (Sub.set (Sub.fresh hk3 (Sub.fresh hk2 (Sub.fresh hk1 (Sub.refl _)))))
    · simp (dsimp := false) only [go_sem, ↓reduceIte, Nat.reduceEqDiff, Nat.reduceLT, Nat.reduceAdd, Nat.reduceSub, Nat.reduceMul, Nat.reduceLeDiff, reduceCtorEq, Int.reduceNeg, Int.reduceToNat, Int.reduceLT, Int.reduceLE, Int.reduceGE, Int.reduceGT, Int.reduceEq, hk, he, a1, a2, a3, a4, a5, a6, b1, b2, b3, b4, b5, b6]
      refine ⟨by simp [prinA, nextP, he], ?_⟩
      simp only [nextC, he, Bool.false_eq_true, if_false, ne_eq, not_false_eq_true, if_true]
      exact Sub.fresh (f1 _) (Sub.set (Sub.fresh hk3 (Sub.fresh hk2 (Sub.fresh hk1 (Sub.refl _)))))
  · simp (dsimp := false) only [go_sem, ↓reduceIte, Nat.reduceEqDiff, Nat.reduceLT, Nat.reduceAdd, Nat.reduceSub, Nat.reduceMul, Nat.reduceLeDiff, reduceCtorEq, Int.reduceNeg, Int.reduceToNat, Int.reduceLT, Int.reduceLE, Int.reduceGE, Int.reduceGT, Int.reduceEq, hk, a1, a2, a3, a4, a5, a6]
    refine ⟨by simp [prinA, nextP], ?_⟩
    simp only [nextC, if_true]
    rw [hid]
    exact Sub.fresh hk1 (Sub.fresh hk2 (Sub.fresh hk1 (Sub.refl _)))
theorem prinR_ok {b : List UInt8} {at_ : Int} (h : (prinR b at_).2.2 = 0) : 0 ≤ (prinR b at_).2.1 ∧ (prinR b at_).2.1 ≤ b.length := by
  unfold prinR at h ⊢
  simp only at h ⊢
  split
  · rename_i h1; rw [if_pos h1] at h; exact absurd h h1
  · rename_i h1
    rw [if_neg h1] at h
    split
    · rename_i h2; rw [if_pos h2] at h; exact absurd h h2
    · rename_i h2
      rw [if_neg h2] at h
      split
      · rename_i h3; rw [if_pos h3] at h; exact absurd h h3
      · rename_i h3
        rw [if_neg h3] at h
        split
        · exact textR_ok (by simpa using h3)
        · rename_i h4; rw [if_neg h4] at h; simp at h
theorem cPrin_ok {b : List UInt8} {s : Int × Bool} (h0 : 0 ≤ s.1) (h1 : s.1 ≤ b.length) : 0 ≤ (cPrin b s).2.1 ∧ (cPrin b s).2.1 ≤ b.length :=
  nextC_ok h0 h1 prinR_ok
theorem CPrincipal_own (b : List UInt8) (little : Bool) (s : Int × Bool) (k : Nat) (own : Own) (K : AV → Own → Prop) (hk : own k = some (curO b little s)) (hn : b.length ≤ 140737488355000)
    (h : K (prinA (cPrin b s).1) (own.set k (curO b little (cPrin b s).2))) :
    AC Tryz.prog 72 [.raw (.pointer (some ⟨k, 0, none⟩))] own K := by
  refine AC.sub (own' := own.set k (curO b little (cPrin b s).2)) (d0 := prinA (cPrin b s).1) ?_ h
  have hk' := hk
  refine AC.of_body (M := []) Tryz.func72 rfl (by kernel_rfl) (Nat.le_of_ble_eq_true rfl) ?_; simp only [Tryz.results72, Tryz.ntmps72]
  simp (dsimp := false) only [go_sem, ↓reduceIte, Nat.reduceEqDiff, Nat.reduceLT, Nat.reduceAdd, Nat.reduceSub, Nat.reduceMul, Nat.reduceLeDiff, reduceCtorEq, Int.reduceNeg, Int.reduceToNat, Int.reduceLT, Int.reduceLE, Int.reduceGE, Int.reduceGT, Int.reduceEq]
  intro k1 hk1
  have m1 := some_ne hk' hk1
  have a1 : ∀ (own : Own) o, (own.set k1 o) k = own k := fun own o => Own.set_ne _ _ (Ne.symm m1)
  have a5 : ∀ (own : Own) o, (own.set k o) k1 = own k1 := fun own o => Own.set_ne _ _ m1
  refine ACs.of (nextPrin_own b little s k _ _ ((a1 _ _).trans hk') _ _ (prinR b s.1).1 (prinR b s.1).2.1 (prinR b s.1).2.2 ?_ ?_)
  · intro own1 K' hk1' hK'
    refine AC.sub (own' := own1) (d0 := .tup [prinA (prinR b s.1).1, .raw (.int .i64 (prinR b s.1).2.1), .raw (.int .i64 (prinR b s.1).2.2)]) ?_ hK'
    have hk2 := hk1'
    unfold curO at hk1'
    refine AC.of_body (M := []) Tryz.func129 rfl (by kernel_rfl) (Nat.le_of_ble_eq_true rfl) ?_; simp only [Tryz.results129, Tryz.ntmps129]
    simp (dsimp := false) only [go_sem, ↓reduceIte, Nat.reduceEqDiff, Nat.reduceLT, Nat.reduceAdd, Nat.reduceSub, Nat.reduceMul, Nat.reduceLeDiff, reduceCtorEq, Int.reduceNeg, Int.reduceToNat, Int.reduceLT, Int.reduceLE, Int.reduceGE, Int.reduceGT, Int.reduceEq]
    intro k2 hk2'
    have m2 := some_ne hk2 hk2'
    have c1 : ∀ (own : Own) o, (own.set k2 o) k = own k := fun own o => Own.set_ne _ _ (Ne.symm m2)
    simp (dsimp := false) only [go_sem, ↓reduceIte, Nat.reduceEqDiff, Nat.reduceLT, Nat.reduceAdd, Nat.reduceSub, Nat.reduceMul, Nat.reduceLeDiff, reduceCtorEq, Int.reduceNeg, Int.reduceToNat, Int.reduceLT, Int.reduceLE, Int.reduceGE, Int.reduceGT, Int.reduceEq, c1, hk1']
    refine ACs.pure (Principal_pure b s.1 hn) ?_
    simp (dsimp := false) only [go_sem, ↓reduceIte, Nat.reduceEqDiff, Nat.reduceLT, Nat.reduceAdd, Nat.reduceSub, Nat.reduceMul, Nat.reduceLeDiff, reduceCtorEq, Int.reduceNeg, Int.reduceToNat, Int.reduceLT, Int.reduceLE, Int.reduceGE, Int.reduceGT, Int.reduceEq, prinA, c1]
    exact Sub.fresh hk2' (Sub.refl _)
  · simp (dsimp := false) only [go_sem, ↓reduceIte, Nat.reduceEqDiff, Nat.reduceLT, Nat.reduceAdd, Nat.reduceSub, Nat.reduceMul, Nat.reduceLeDiff, reduceCtorEq, Int.reduceNeg, Int.reduceToNat, Int.reduceLT, Int.reduceLE, Int.reduceGE, Int.reduceGT, Int.reduceEq, prinA, a1, a5]
    exact ⟨⟨rfl, rfl, rfl⟩, Sub.fresh ((a5 _ _).trans hk1) (Sub.set (Sub.fresh hk1 (Sub.refl _)))⟩
theorem CBad_own (b : List UInt8) (little : Bool) (s : Int × Bool) (k : Nat) (own : Own) (K : AV → Own → Prop) (hk : own k = some (curO b little s)) (h : K (.raw (.bool s.2)) own) :
    AC Tryz.prog 101 [.raw (.pointer (some ⟨k, 0, none⟩))] own K := by
  unfold curO at hk
  refine AC.of_body (M := []) Tryz.func101 rfl (by kernel_rfl) (Nat.le_of_ble_eq_true rfl) ?_; simp only [Tryz.results101, Tryz.ntmps101]
  simp (dsimp := false) only [go_sem, ↓reduceIte, Nat.reduceEqDiff, Nat.reduceLT, Nat.reduceAdd, Nat.reduceSub, Nat.reduceMul, Nat.reduceLeDiff, reduceCtorEq, Int.reduceNeg, Int.reduceToNat, Int.reduceLT, Int.reduceLE, Int.reduceGE, Int.reduceGT, Int.reduceEq, hk]
  exact h
theorem CNew_own (b : List UInt8) (at_ : Int) (little : Bool) (own : Own) (K : AV → Own → Prop) (h : ∀ k, own k = none → K (.raw (.pointer (some ⟨k, 0, none⟩))) (own.set k (curO b little (at_, false)))) :
    AC Tryz.prog 87 [.lst 1 (b.map byteA), .raw (.int .i64 at_), .raw (.bool little)] own K := by
  refine AC.of_body (M := [11]) Tryz.func87 rfl (by kernel_rfl) (Nat.le_of_ble_eq_true rfl) ?_; simp only [Tryz.results87, Tryz.ntmps87]
  simp (dsimp := false) only [go_sem, ↓reduceIte, Nat.reduceEqDiff, Nat.reduceLT, Nat.reduceAdd, Nat.reduceSub, Nat.reduceMul, Nat.reduceLeDiff, reduceCtorEq, Int.reduceNeg, Int.reduceToNat, Int.reduceLT, Int.reduceLE, Int.reduceGE, Int.reduceGT, Int.reduceEq]
  exact h
theorem bytes_eq (a b : List UInt8) : ((ByteArray.mk a.toArray).toList == (ByteArray.mk b.toArray).toList) = decide (a = b) := by
  rw [Lib.toList_data, Lib.toList_data]
  by_cases h : a = b
  · simp [h]
  · simp [h]
theorem Equal_pure (a b : List UInt8) : PC Tryz.prog 102 [.lst 1 (a.map byteA), .lst 1 (b.map byteA)] (.raw (.bool (decide (a = b)))) := by
  refine PC.of_ac ?_
  refine AC.of_body (M := []) Tryz.func102 rfl (by kernel_rfl) (Nat.le_of_ble_eq_true rfl) ?_; simp only [Tryz.results102, Tryz.ntmps102]
  simp (dsimp := false) only [go_sem, ↓reduceIte, Nat.reduceEqDiff, Nat.reduceLT, Nat.reduceAdd, Nat.reduceSub, Nat.reduceMul, Nat.reduceLeDiff, reduceCtorEq, Int.reduceNeg, Int.reduceToNat, Int.reduceLT, Int.reduceLE, Int.reduceGE, Int.reduceGT, Int.reduceEq, bytes_eq]
end Go.Proofs.YtghnigbihllnmaaGreat.Fn
