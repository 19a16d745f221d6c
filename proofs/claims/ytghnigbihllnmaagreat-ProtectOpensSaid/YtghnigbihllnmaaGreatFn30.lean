/- The cursor's other fields; tickets: their bytes. -/
import Derived.Test.YtghnigbihllnmaaGreatHlC
import Derived.Test.YtghnigbihllnmaaGreatSp1
import Derived.Test.YtghnigbihllnmaaGreatTy
import Derived.Test.YtghnigbihllnmaaGreatFn1
import Derived.Test.YtghnigbihllnmaaGreatFn2
import Derived.Test.YtghnigbihllnmaaGreatFn3
import Derived.Test.YtghnigbihllnmaaGreatFn5
import Derived.Test.YtghnigbihllnmaaGreatFn13
import Derived.Test.YtghnigbihllnmaaGreatFn15
import Derived.Test.YtghnigbihllnmaaGreatFn17
import Derived.Test.YtghnigbihllnmaaGreatFn19
import Derived.Test.YtghnigbihllnmaaGreatFn20
import Derived.Test.YtghnigbihllnmaaGreatFn21
import Derived.Test.YtghnigbihllnmaaGreatFn24
import Derived.Test.YtghnigbihllnmaaGreatFn25
import Derived.Test.YtghnigbihllnmaaGreatFn27
set_option linter.unusedVariables false
set_option linter.unusedSimpArgs false
namespace Go.Proofs.YtghnigbihllnmaaGreat.Fn
open Go Hl Sp Ty
set_option maxRecDepth 100000

def nextT (s : Int × Bool) (x : ByteArray) (e : Int) : ByteArray := if s.2 then ⟨#[]⟩ else if e ≠ 0 then ⟨#[]⟩ else x
def nextB (s : Int × Bool) (x : List UInt8) (e : Int) : List UInt8 := if s.2 then [] else if e ≠ 0 then [] else x
def cTxt (b : List UInt8) (s : Int × Bool) : ByteArray × (Int × Bool) := (nextT s (textR b s.1).1 (textR b s.1).2.2, nextC s (textR b s.1).2.1 (textR b s.1).2.2)
def cByt (b : List UInt8) (n : Int) (s : Int × Bool) : List UInt8 × (Int × Bool) := (nextB s (bytesR b s.1 n).1 (bytesR b s.1 n).2.2, nextC s (bytesR b s.1 n).2.1 (bytesR b s.1 n).2.2)
theorem cTxt_ok {b : List UInt8} {s : Int × Bool} (h0 : 0 ≤ s.1) (h1 : s.1 ≤ b.length) : 0 ≤ (cTxt b s).2.1 ∧ (cTxt b s).2.1 ≤ b.length := nextC_ok h0 h1 textR_ok
theorem cByt_ok {b : List UInt8} {n : Int} {s : Int × Bool} (h0 : 0 ≤ s.1) (h1 : s.1 ≤ b.length) (h2 : 0 ≤ n) : 0 ≤ (cByt b n s).2.1 ∧ (cByt b n s).2.1 ≤ b.length :=
  nextC_ok h0 h1 fun h => by
    obtain ⟨g1, g2, g3⟩ := bytesR_len h0 h2 h
    rw [g3]; omega
theorem cTxt_small (b : List UInt8) (s : Int × Bool) : (cTxt b s).1.size ≤ 39 := by
  have z : (⟨#[]⟩ : ByteArray).size ≤ 39 := Nat.zero_le _
  unfold cTxt nextT
  simp only
  split
  · exact z
  · split
    · exact z
    · exact textR_small _ _
theorem nextStr_own (b : List UInt8) (little : Bool) (s : Int × Bool) (k : Nat) (own : Own) (K : AV → Own → Prop) (hk : own k = some (curO b little s)) (f : Nat) (cap : List AV) (x : ByteArray) (at' e : Int)
    (hf : ∀ K' : AV → Own → Prop, K' (.tup [.raw (.string x), .raw (.int .i64 at'), .raw (.int .i64 e)]) own → AC Tryz.prog f (.raw (.int .i64 s.1) :: cap) own K')
    (h : K (.raw (.string (nextT s x e))) (own.set k (curO b little (nextC s at' e)))) :
    AC Tryz.prog 136 [.raw (.pointer (some ⟨k, 0, none⟩)), .clo (.func f) [] cap] own K := by
  have hid := set_self hk
  obtain ⟨at_, bad⟩ := s
  unfold curO at hk
  refine AC.of_body (M := []) Tryz.func136 rfl (by kernel_rfl) (Nat.le_of_ble_eq_true rfl) ?_; simp only [Tryz.results136, Tryz.ntmps136]
  cases bad
  · simp (dsimp := false) only [go_sem, ↓reduceIte, Nat.reduceEqDiff, Nat.reduceLT, Nat.reduceAdd, Nat.reduceSub, Nat.reduceMul, Nat.reduceLeDiff, reduceCtorEq, Int.reduceNeg, Int.reduceToNat, Int.reduceLT, Int.reduceLE, Int.reduceGE, Int.reduceGT, Int.reduceEq, hk]
    refine ACs.of (hf _ ?_)
    by_cases he : e = 0
    · simp only [nextT, nextC, he, Bool.false_eq_true, if_false, ne_eq, not_true_eq_false] at h
      simp (dsimp := false) only [go_sem, ↓reduceIte, Nat.reduceEqDiff, Nat.reduceLT, Nat.reduceAdd, Nat.reduceSub, Nat.reduceMul, Nat.reduceLeDiff, reduceCtorEq, Int.reduceNeg, Int.reduceToNat, Int.reduceLT, Int.reduceLE, Int.reduceGE, Int.reduceGT, Int.reduceEq, hk, he]
      exact h
    · simp only [nextT, nextC, he, Bool.false_eq_true, if_false, ne_eq, not_false_eq_true, if_true] at h
      simp (dsimp := false) only [go_sem, ↓reduceIte, Nat.reduceEqDiff, Nat.reduceLT, Nat.reduceAdd, Nat.reduceSub, Nat.reduceMul, Nat.reduceLeDiff, reduceCtorEq, Int.reduceNeg, Int.reduceToNat, Int.reduceLT, Int.reduceLE, Int.reduceGE, Int.reduceGT, Int.reduceEq, hk, he]
      exact h
  · simp (dsimp := false) only [go_sem, ↓reduceIte, Nat.reduceEqDiff, Nat.reduceLT, Nat.reduceAdd, Nat.reduceSub, Nat.reduceMul, Nat.reduceLeDiff, reduceCtorEq, Int.reduceNeg, Int.reduceToNat, Int.reduceLT, Int.reduceLE, Int.reduceGE, Int.reduceGT, Int.reduceEq, hk]
    simp only [nextT, nextC, if_true] at h
    rw [hid] at h
    exact h
theorem nextByt_own (b : List UInt8) (little : Bool) (s : Int × Bool) (k : Nat) (own : Own) (K : AV → Own → Prop) (hk : own k = some (curO b little s)) (f : Nat) (cap : List AV) (x : List UInt8) (at' e : Int)
    (hf : ∀ K' : AV → Own → Prop, K' (.tup [.lst 1 (x.map byteA), .raw (.int .i64 at'), .raw (.int .i64 e)]) own → AC Tryz.prog f (.raw (.int .i64 s.1) :: cap) own K')
    (h : K (.lst 1 ((nextB s x e).map byteA)) (own.set k (curO b little (nextC s at' e)))) :
    AC Tryz.prog 143 [.raw (.pointer (some ⟨k, 0, none⟩)), .clo (.func f) [] cap] own K := by
  refine AC.post (K := fun d own1 => ∃ d', Weak1 own1 d own1 d' ∧ K d' own1) ?_ (fun d own1 ⟨d', hw, hk⟩ => ⟨d', own1, hw, hk⟩)
  have hid := set_self hk
  obtain ⟨at_, bad⟩ := s
  unfold curO at hk
  refine AC.of_body (M := []) Tryz.func143 rfl (by kernel_rfl) (Nat.le_of_ble_eq_true rfl) ?_; simp only [Tryz.results143, Tryz.ntmps143]
  cases bad
  · simp (dsimp := false) only [go_sem, ↓reduceIte, Nat.reduceEqDiff, Nat.reduceLT, Nat.reduceAdd, Nat.reduceSub, Nat.reduceMul, Nat.reduceLeDiff, reduceCtorEq, Int.reduceNeg, Int.reduceToNat, Int.reduceLT, Int.reduceLE, Int.reduceGE, Int.reduceGT, Int.reduceEq, hk]
    refine ACs.of (hf _ ?_)
    by_cases he : e = 0
    · simp only [nextB, nextC, he, Bool.false_eq_true, if_false, ne_eq, not_true_eq_false] at h
      simp (dsimp := false) only [go_sem, ↓reduceIte, Nat.reduceEqDiff, Nat.reduceLT, Nat.reduceAdd, Nat.reduceSub, Nat.reduceMul, Nat.reduceLeDiff, reduceCtorEq, Int.reduceNeg, Int.reduceToNat, Int.reduceLT, Int.reduceLE, Int.reduceGE, Int.reduceGT, Int.reduceEq, hk, he]
      exact ⟨_, Weak1.refl _ _, h⟩
    · simp only [nextB, nextC, he, Bool.false_eq_true, if_false, ne_eq, not_false_eq_true, if_true] at h
      simp (dsimp := false) only [go_sem, ↓reduceIte, Nat.reduceEqDiff, Nat.reduceLT, Nat.reduceAdd, Nat.reduceSub, Nat.reduceMul, Nat.reduceLeDiff, reduceCtorEq, Int.reduceNeg, Int.reduceToNat, Int.reduceLT, Int.reduceLE, Int.reduceGE, Int.reduceGT, Int.reduceEq, hk, he]
      exact ⟨_, Weak1.nil, h⟩
  · simp (dsimp := false) only [go_sem, ↓reduceIte, Nat.reduceEqDiff, Nat.reduceLT, Nat.reduceAdd, Nat.reduceSub, Nat.reduceMul, Nat.reduceLeDiff, reduceCtorEq, Int.reduceNeg, Int.reduceToNat, Int.reduceLT, Int.reduceLE, Int.reduceGE, Int.reduceGT, Int.reduceEq, hk]
    simp only [nextB, nextC, if_true] at h
    rw [hid] at h
    exact ⟨_, Weak1.nil, h⟩
theorem CText_own (b : List UInt8) (little : Bool) (s : Int × Bool) (k : Nat) (own : Own) (K : AV → Own → Prop) (hk : own k = some (curO b little s)) (hn : b.length ≤ 140737488355000)
    (h : K (.raw (.string (cTxt b s).1)) (own.set k (curO b little (cTxt b s).2))) :
    AC Tryz.prog 75 [.raw (.pointer (some ⟨k, 0, none⟩))] own K := by
  refine AC.of_body (M := []) Tryz.func75 rfl (by kernel_rfl) (Nat.le_of_ble_eq_true rfl) ?_; simp only [Tryz.results75, Tryz.ntmps75]
  simp (dsimp := false) only [go_sem, ↓reduceIte, Nat.reduceEqDiff, Nat.reduceLT, Nat.reduceAdd, Nat.reduceSub, Nat.reduceMul, Nat.reduceLeDiff, reduceCtorEq, Int.reduceNeg, Int.reduceToNat, Int.reduceLT, Int.reduceLE, Int.reduceGE, Int.reduceGT, Int.reduceEq]
  refine ACs.of (nextStr_own b little s k own _ hk _ _ (textR b s.1).1 (textR b s.1).2.1 (textR b s.1).2.2 ?_ ?_)
  · intro K' hK'
    unfold curO at hk
    refine AC.of_body (M := []) Tryz.func137 rfl (by kernel_rfl) (Nat.le_of_ble_eq_true rfl) ?_; simp only [Tryz.results137, Tryz.ntmps137]
    simp (dsimp := false) only [go_sem, ↓reduceIte, Nat.reduceEqDiff, Nat.reduceLT, Nat.reduceAdd, Nat.reduceSub, Nat.reduceMul, Nat.reduceLeDiff, reduceCtorEq, Int.reduceNeg, Int.reduceToNat, Int.reduceLT, Int.reduceLE, Int.reduceGE, Int.reduceGT, Int.reduceEq, hk]
    refine ACs.pure (Text_pure b s.1 hn) ?_
    simp (dsimp := false) only [go_sem, ↓reduceIte, Nat.reduceEqDiff, Nat.reduceLT, Nat.reduceAdd, Nat.reduceSub, Nat.reduceMul, Nat.reduceLeDiff, reduceCtorEq, Int.reduceNeg, Int.reduceToNat, Int.reduceLT, Int.reduceLE, Int.reduceGE, Int.reduceGT, Int.reduceEq]
    exact hK'
  · simp (dsimp := false) only [go_sem, ↓reduceIte, Nat.reduceEqDiff, Nat.reduceLT, Nat.reduceAdd, Nat.reduceSub, Nat.reduceMul, Nat.reduceLeDiff, reduceCtorEq, Int.reduceNeg, Int.reduceToNat, Int.reduceLT, Int.reduceLE, Int.reduceGE, Int.reduceGT, Int.reduceEq]
    exact h
theorem Bytes_pure (b : List UInt8) (at_ n : Int) (h0 : 0 ≤ at_) (h1 : at_ ≤ b.length) (h2 : 0 ≤ n) (h3 : n ≤ 140737488355000) (hn : b.length ≤ 140737488355000) :
    PC Tryz.prog 145 [.lst 1 (b.map byteA), .raw (.int .i64 at_), .raw (.int .i64 n)] (.tup [.lst 1 ((bytesR b at_ n).1.map byteA), .raw (.int .i64 (bytesR b at_ n).2.1), .raw (.int .i64 (bytesR b at_ n).2.2)]) := by
  refine PC.of_ac ?_
  refine AC.of_body (M := []) Tryz.func145 rfl (by kernel_rfl) (Nat.le_of_ble_eq_true rfl) ?_; simp only [Tryz.results145, Tryz.ntmps145]
  by_cases hc : at_ + n ≤ b.length
  · rw [bytesR, if_pos hc]
    simp (dsimp := false) only [go_sem, ↓reduceIte, Nat.reduceEqDiff, Nat.reduceLT, Nat.reduceAdd, Nat.reduceSub, Nat.reduceMul, Nat.reduceLeDiff, reduceCtorEq, Int.reduceNeg, Int.reduceToNat, Int.reduceLT, Int.reduceLE, Int.reduceGE, Int.reduceGT, Int.reduceEq]
    refine ACs.pure (take_ok b at_ n h0 h1 h2 (by omega) hn) ?_
    simp (dsimp := false) only [go_sem, ↓reduceIte, Nat.reduceEqDiff, Nat.reduceLT, Nat.reduceAdd, Nat.reduceSub, Nat.reduceMul, Nat.reduceLeDiff, reduceCtorEq, Int.reduceNeg, Int.reduceToNat, Int.reduceLT, Int.reduceLE, Int.reduceGE, Int.reduceGT, Int.reduceEq]
    refine ACs.pure (Clone_pure _ (by simp; omega)) ?_
    simp (dsimp := false) only [go_sem, ↓reduceIte, Nat.reduceEqDiff, Nat.reduceLT, Nat.reduceAdd, Nat.reduceSub, Nat.reduceMul, Nat.reduceLeDiff, reduceCtorEq, Int.reduceNeg, Int.reduceToNat, Int.reduceLT, Int.reduceLE, Int.reduceGE, Int.reduceGT, Int.reduceEq]
  · rw [bytesR, if_neg hc]
    simp (dsimp := false) only [go_sem, ↓reduceIte, Nat.reduceEqDiff, Nat.reduceLT, Nat.reduceAdd, Nat.reduceSub, Nat.reduceMul, Nat.reduceLeDiff, reduceCtorEq, Int.reduceNeg, Int.reduceToNat, Int.reduceLT, Int.reduceLE, Int.reduceGE, Int.reduceGT, Int.reduceEq]
    refine ACs.pure (take_err b at_ n h0 h1 h2 (by omega) hn) ?_
    simp (dsimp := false) only [go_sem, ↓reduceIte, Nat.reduceEqDiff, Nat.reduceLT, Nat.reduceAdd, Nat.reduceSub, Nat.reduceMul, Nat.reduceLeDiff, reduceCtorEq, Int.reduceNeg, Int.reduceToNat, Int.reduceLT, Int.reduceLE, Int.reduceGE, Int.reduceGT, Int.reduceEq]
    refine ACs.arg (pre := []) (Weak1.nil (wd := 1)) ?_
    refine ACs.pure (Clone_pure [] (by simp)) ?_
    simp (dsimp := false) only [go_sem, ↓reduceIte, Nat.reduceEqDiff, Nat.reduceLT, Nat.reduceAdd, Nat.reduceSub, Nat.reduceMul, Nat.reduceLeDiff, reduceCtorEq, Int.reduceNeg, Int.reduceToNat, Int.reduceLT, Int.reduceLE, Int.reduceGE, Int.reduceGT, Int.reduceEq]
theorem CBytes_own (b : List UInt8) (n : Int) (little : Bool) (s : Int × Bool) (k : Nat) (own : Own) (K : AV → Own → Prop) (hk : own k = some (curO b little s)) (h0 : 0 ≤ s.1) (h1 : s.1 ≤ b.length) (h2 : 0 ≤ n) (h3 : n ≤ 140737488355000) (hn : b.length ≤ 140737488355000)
    (h : K (.lst 1 ((cByt b n s).1.map byteA)) (own.set k (curO b little (cByt b n s).2))) :
    AC Tryz.prog 82 [.raw (.pointer (some ⟨k, 0, none⟩)), .raw (.int .i64 n)] own K := by
  refine AC.of_body (M := []) Tryz.func82 rfl (by kernel_rfl) (Nat.le_of_ble_eq_true rfl) ?_; simp only [Tryz.results82, Tryz.ntmps82]
  simp (dsimp := false) only [go_sem, ↓reduceIte, Nat.reduceEqDiff, Nat.reduceLT, Nat.reduceAdd, Nat.reduceSub, Nat.reduceMul, Nat.reduceLeDiff, reduceCtorEq, Int.reduceNeg, Int.reduceToNat, Int.reduceLT, Int.reduceLE, Int.reduceGE, Int.reduceGT, Int.reduceEq]
  refine ACs.of (nextByt_own b little s k own _ hk _ _ (bytesR b s.1 n).1 (bytesR b s.1 n).2.1 (bytesR b s.1 n).2.2 ?_ ?_)
  · intro K' hK'
    unfold curO at hk
    refine AC.of_body (M := []) Tryz.func144 rfl (by kernel_rfl) (Nat.le_of_ble_eq_true rfl) ?_; simp only [Tryz.results144, Tryz.ntmps144]
    simp (dsimp := false) only [go_sem, ↓reduceIte, Nat.reduceEqDiff, Nat.reduceLT, Nat.reduceAdd, Nat.reduceSub, Nat.reduceMul, Nat.reduceLeDiff, reduceCtorEq, Int.reduceNeg, Int.reduceToNat, Int.reduceLT, Int.reduceLE, Int.reduceGE, Int.reduceGT, Int.reduceEq, hk]
    refine AW.draw (M := []) [.v, .v, .v, .r, .v, .v, .e, .v, .v, .v, .v, .v, .v] mixed (by kernel_rfl) ?_
    simp (dsimp := false) only [go_sem, ↓reduceIte, Nat.reduceEqDiff, Nat.reduceLT, Nat.reduceAdd, Nat.reduceSub, Nat.reduceMul, Nat.reduceLeDiff, reduceCtorEq, Int.reduceNeg, Int.reduceToNat, Int.reduceLT, Int.reduceLE, Int.reduceGE, Int.reduceGT, Int.reduceEq, hk]
    refine ACs.pure (Bytes_pure b s.1 n h0 h1 h2 h3 hn) ?_
    simp (dsimp := false) only [go_sem, ↓reduceIte, Nat.reduceEqDiff, Nat.reduceLT, Nat.reduceAdd, Nat.reduceSub, Nat.reduceMul, Nat.reduceLeDiff, reduceCtorEq, Int.reduceNeg, Int.reduceToNat, Int.reduceLT, Int.reduceLE, Int.reduceGE, Int.reduceGT, Int.reduceEq]
    exact hK'
  · simp (dsimp := false) only [go_sem, ↓reduceIte, Nat.reduceEqDiff, Nat.reduceLT, Nat.reduceAdd, Nat.reduceSub, Nat.reduceMul, Nat.reduceLeDiff, reduceCtorEq, Int.reduceNeg, Int.reduceToNat, Int.reduceLT, Int.reduceLE, Int.reduceGE, Int.reduceGT, Int.reduceEq]
    exact h
def cKey (b : List UInt8) (s : Int × Bool) : Int × (Int × Bool) := ((keyR (cByt b 8 s).1).1, (cByt b 8 s).2)
theorem keyR_range (b : List UInt8) : 0 ≤ (keyR b).1 ∧ (keyR b).1 < 18446744073709551616 := by
  unfold keyR
  split
  · rename_i h
    have := readV_lt b false
    rw [h.1] at this
    have h64 : (2 : Nat) ^ (8 * 8) = 18446744073709551616 := by decide
    simp only
    omega
  · simp
theorem bytesR_le (b : List UInt8) (at_ n : Int) : (bytesR b at_ n).1.length ≤ b.length := by
  unfold bytesR
  split
  · simp; omega
  · simp
theorem nextB_le {s : Int × Bool} {x : List UInt8} {e : Int} {n : Nat} (h : x.length ≤ n) : (nextB s x e).length ≤ n := by
  unfold nextB
  split
  · simp
  · split
    · simp
    · exact h
theorem CKey_own (b : List UInt8) (little : Bool) (s : Int × Bool) (k : Nat) (own : Own) (K : AV → Own → Prop) (hk : own k = some (curO b little s)) (h0 : 0 ≤ s.1) (h1 : s.1 ≤ b.length) (hn : b.length ≤ 140737488355000)
    (h : K (.raw (.int .u64 (cKey b s).1)) (own.set k (curO b little (cKey b s).2))) :
    AC Tryz.prog 88 [.raw (.pointer (some ⟨k, 0, none⟩))] own K := by
  refine AC.of_body (M := []) Tryz.func88 rfl (by kernel_rfl) (Nat.le_of_ble_eq_true rfl) ?_; simp only [Tryz.results88, Tryz.ntmps88]
  simp (dsimp := false) only [go_sem, ↓reduceIte, Nat.reduceEqDiff, Nat.reduceLT, Nat.reduceAdd, Nat.reduceSub, Nat.reduceMul, Nat.reduceLeDiff, reduceCtorEq, Int.reduceNeg, Int.reduceToNat, Int.reduceLT, Int.reduceLE, Int.reduceGE, Int.reduceGT, Int.reduceEq]
  refine ACs.of (CBytes_own b 8 little s k own _ hk h0 h1 (by decide) (by decide) hn ?_)
  simp (dsimp := false) only [go_sem, ↓reduceIte, Nat.reduceEqDiff, Nat.reduceLT, Nat.reduceAdd, Nat.reduceSub, Nat.reduceMul, Nat.reduceLeDiff, reduceCtorEq, Int.reduceNeg, Int.reduceToNat, Int.reduceLT, Int.reduceLE, Int.reduceGE, Int.reduceGT, Int.reduceEq]
  refine ACs.pure (keyRead_pure _ (Nat.le_trans (nextB_le (bytesR_le _ _ _)) hn)) ?_
  simp (dsimp := false) only [go_sem, ↓reduceIte, Nat.reduceEqDiff, Nat.reduceLT, Nat.reduceAdd, Nat.reduceSub, Nat.reduceMul, Nat.reduceLeDiff, reduceCtorEq, Int.reduceNeg, Int.reduceToNat, Int.reduceLT, Int.reduceLE, Int.reduceGE, Int.reduceGT, Int.reduceEq]
  exact h
def rByt (b : List UInt8) (n : Int) (s : Int × Bool) : List UInt8 × (Int × Bool) := ((bytesR b s.1 n).1, nextC s (bytesR b s.1 n).2.1 (bytesR b s.1 n).2.2)
theorem rByt_ok {b : List UInt8} {n : Int} {s : Int × Bool} (h0 : 0 ≤ s.1) (h1 : s.1 ≤ b.length) (h2 : 0 ≤ n) : 0 ≤ (rByt b n s).2.1 ∧ (rByt b n s).2.1 ≤ b.length := cByt_ok (n := n) h0 h1 h2
theorem RBytes_own (b : List UInt8) (n : Int) (little : Bool) (s : Int × Bool) (k : Nat) (own : Own) (K : AV → Own → Prop) (hk : own k = some (rdO b little s)) (h0 : 0 ≤ s.1) (h1 : s.1 ≤ b.length) (h2 : 0 ≤ n) (h3 : n ≤ 140737488355000) (hn : b.length ≤ 140737488355000)
    (h : K (.lst 1 ((rByt b n s).1.map byteA)) (own.set k (rdO b little (rByt b n s).2))) : AC Tryz.prog 86 [.raw (.pointer (some ⟨k, 0, none⟩)), .raw (.int .i64 n)] own K := by
  have hk' := hk
  unfold rdO at hk
  refine AC.of_body (M := []) Tryz.func86 rfl (by kernel_rfl) (Nat.le_of_ble_eq_true rfl) ?_; simp only [Tryz.results86, Tryz.ntmps86]
  simp (dsimp := false) only [go_sem, ↓reduceIte, Nat.reduceEqDiff, Nat.reduceLT, Nat.reduceAdd, Nat.reduceSub, Nat.reduceMul, Nat.reduceLeDiff, reduceCtorEq, Int.reduceNeg, Int.reduceToNat, Int.reduceLT, Int.reduceLE, Int.reduceGE, Int.reduceGT, Int.reduceEq]
  refine AW.draw (M := []) [.v, .v, .v, .r, .v, .v, .v, .r, .v, .e, .v, .v, .v, .v, .v, .v, .v] mixed (by kernel_rfl) ?_
  simp (dsimp := false) only [go_sem, ↓reduceIte, Nat.reduceEqDiff, Nat.reduceLT, Nat.reduceAdd, Nat.reduceSub, Nat.reduceMul, Nat.reduceLeDiff, reduceCtorEq, Int.reduceNeg, Int.reduceToNat, Int.reduceLT, Int.reduceLE, Int.reduceGE, Int.reduceGT, Int.reduceEq, hk]
  refine ACs.pure (rBytes_pure b s.1 n h0 h1 h2 h3 hn) ?_
  simp (dsimp := false) only [go_sem, ↓reduceIte, Nat.reduceEqDiff, Nat.reduceLT, Nat.reduceAdd, Nat.reduceSub, Nat.reduceMul, Nat.reduceLeDiff, reduceCtorEq, Int.reduceNeg, Int.reduceToNat, Int.reduceLT, Int.reduceLE, Int.reduceGE, Int.reduceGT, Int.reduceEq]
  refine ACs.of (move_own b little s k _ _ hk' _ _ ?_)
  simp (dsimp := false) only [go_sem, ↓reduceIte, Nat.reduceEqDiff, Nat.reduceLT, Nat.reduceAdd, Nat.reduceSub, Nat.reduceMul, Nat.reduceLeDiff, reduceCtorEq, Int.reduceNeg, Int.reduceToNat, Int.reduceLT, Int.reduceLE, Int.reduceGE, Int.reduceGT, Int.reduceEq]
  exact h
theorem rPutNumber_own (b : List UInt8) (n : Int) (little : Bool) (hn : b.length ≤ 140737488355000) (own : Own) (K : AV → Own → Prop) (h : RowK 5 1 (b ++ numB n 4 little).length ((b ++ numB n 4 little).map byteA) own K) :
    AC Tryz.prog 63 [.lst 1 (b.map byteA), .raw (.int .i64 n), .raw (.bool little)] own K := by
  have h2 := h.2
  simp only [List.length_append, numB_length] at h2
  refine AC.of_body (M := []) Tryz.func63 rfl (by kernel_rfl) (Nat.le_of_ble_eq_true rfl) ?_; simp only [Tryz.results63, Tryz.ntmps63]
  simp (dsimp := false) only [go_sem, ↓reduceIte, Nat.reduceEqDiff, Nat.reduceLT, Nat.reduceAdd, Nat.reduceSub, Nat.reduceMul, Nat.reduceLeDiff, reduceCtorEq, Int.reduceNeg, Int.reduceToNat, Int.reduceLT, Int.reduceLE, Int.reduceGE, Int.reduceGT, Int.reduceEq]
  have hp := rput_own b n 4 little (by omega) (by omega) hn own
  rw [show ((4 : Nat) : Int) = 4 from rfl] at hp
  refine ACs.of (hp _ fun k c hk hc => ?_)
  simp (dsimp := false) only [go_sem, ↓reduceIte, Nat.reduceEqDiff, Nat.reduceLT, Nat.reduceAdd, Nat.reduceSub, Nat.reduceMul, Nat.reduceLeDiff, reduceCtorEq, Int.reduceNeg, Int.reduceToNat, Int.reduceLT, Int.reduceLE, Int.reduceGE, Int.reduceGT, Int.reduceEq]
  have := h2 k c hk hc
  simpa using this

/-- The bytes of a ticket. -/
def tkPre (lt : Bool) (n i r : ByteArray) (ad k li is : Int) (s t : ByteArray) : List UInt8 := [u8 (flagZ lt)] ++ prinB n i r ++ numB ad 4 lt ++ numB k 8 false ++ [u8 li] ++ numB is 4 lt ++ textB s ++ textB t
def tkB (lt : Bool) (n i r : ByteArray) (ad k li is : Int) (s t : ByteArray) : List UInt8 := padB (tkPre lt n i r ad k li is s t)
theorem padB_length (b : List UInt8) : (padB b).length ≤ b.length + 7 := by
  simp only [padB, List.length_append, List.length_replicate, padN]; omega
theorem tkPre_length (lt : Bool) (n i r : ByteArray) (ad k li is : Int) (s t : ByteArray) : (tkPre lt n i r ad k li is s t).length = n.size + i.size + r.size + s.size + t.size + 23 := by
  simp only [tkPre, List.length_append, prinB_length, numB_length, textB_length, List.length_singleton]; omega
/-- What Encode answers. -/
def tkE (lt : Bool) (n i r : ByteArray) (ad k li is : Int) (s t : ByteArray) : AV := .tup [.lst 1 ((if tkChk n i r ad k li is s t = 0 then tkB lt n i r ad k li is s t else []).map byteA), .raw (.int .i64 (tkChk n i r ad k li is s t))]
end Go.Proofs.YtghnigbihllnmaaGreat.Fn
