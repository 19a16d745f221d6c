/- The laws on tickets. -/
import Derived.Test.YtaokfnfaipdpdaaGreatHlC
import Derived.Test.YtaokfnfaipdpdaaGreatSp1
import Derived.Test.YtaokfnfaipdpdaaGreatTy
import Derived.Test.YtaokfnfaipdpdaaGreatFn1
import Derived.Test.YtaokfnfaipdpdaaGreatFn8
import Derived.Test.YtaokfnfaipdpdaaGreatFn12
import Derived.Test.YtaokfnfaipdpdaaGreatFn13
import Derived.Test.YtaokfnfaipdpdaaGreatFn15
import Derived.Test.YtaokfnfaipdpdaaGreatFn19
import Derived.Test.YtaokfnfaipdpdaaGreatFn20
import Derived.Test.YtaokfnfaipdpdaaGreatFn21
import Derived.Test.YtaokfnfaipdpdaaGreatFn30
import Derived.Test.YtaokfnfaipdpdaaGreatFn31
import Derived.Test.YtaokfnfaipdpdaaGreatFn32
set_option linter.unusedVariables false
set_option linter.unusedSimpArgs false
namespace Go.Proofs.YtaokfnfaipdpdaaGreat.Fn
open Go Hl Sp Ty
set_option maxRecDepth 100000
theorem tkB_length (lt : Bool) (n i r : ByteArray) (ad k li is : Int) (s t : ByteArray) : (tkB lt n i r ad k li is s t).length ≤ n.size + i.size + r.size + s.size + t.size + 30 := by
  have := padB_length (tkPre lt n i r ad k li is s t)
  rw [tkPre_length] at this
  unfold tkB
  omega
theorem TkOk.size {n i r : ByteArray} {ad k li is : Int} {s t : ByteArray} (h : TkOk n i r ad k li is s t) : n.size ≤ 39 ∧ i.size ≤ 39 ∧ r.size ≤ 39 ∧ s.size ≤ 39 ∧ t.size ≤ 39 ∧ 0 ≤ k ∧ k < 18446744073709551616 := by
  have a := validB_size h.1
  have b := nameB_size h.2.1
  have c := instB_size h.2.2.1
  have d := h.2.2.2.2.1
  omega
theorem tk_dec {lt : Bool} {n i r : ByteArray} {ad k li is : Int} {s t : ByteArray} {d : AV} (h0 : tkChk n i r ad k li is s t = 0) (hk : 0 ≤ k ∧ k < 18446744073709551616) (h : DecT (tkB lt n i r ad k li is s t) d) : d = .tup [ticketA lt n i r ad k li is s t, .raw (.int .i64 0)] :=
  h.unique (.inl ⟨_, _, _, _, _, _, _, _, _, _, ⟨tkChk_ok h0 hk, rfl⟩, rfl⟩)
theorem awake6_pure : PC Tryz.prog 4 [] (.raw (.bool true)) := by
  refine PC.of_ac ?_
  have he := tkEncode_pure false ⟨#[97]⟩ ⟨#[98]⟩ ⟨#[99]⟩ 0 144115188075855874 0 0 ⟨#[115]⟩ ⟨#[]⟩ (by decide) (by decide) (by decide) (by decide) (by decide) (by decide) (by decide)
  have hS := Session_pure 1 (by decide) (by decide)
  rw [show (144115188075855873 : Int) + 1 = 144115188075855874 by decide] at hS
  have e1 : tkE false ⟨#[97]⟩ ⟨#[98]⟩ ⟨#[99]⟩ 0 144115188075855874 0 0 ⟨#[115]⟩ ⟨#[]⟩ = .tup [.lst 1 ([0, 97, 0, 98, 0, 99, 0, 0, 0, 0, 0, 2, 0, 0, 0, 0, 0, 0, 2, 0, 0, 0, 0, 0, 115, 0, 0, 0, 0, 0, 0, 0].map byteA), .raw (.int .i64 0)] := by
    have c1 : tkChk ⟨#[97]⟩ ⟨#[98]⟩ ⟨#[99]⟩ 0 144115188075855874 0 0 ⟨#[115]⟩ ⟨#[]⟩ = 0 := by decide
    have c2 : tkB false ⟨#[97]⟩ ⟨#[98]⟩ ⟨#[99]⟩ 0 144115188075855874 0 0 ⟨#[115]⟩ ⟨#[]⟩ = [0, 97, 0, 98, 0, 99, 0, 0, 0, 0, 0, 2, 0, 0, 0, 0, 0, 0, 2, 0, 0, 0, 0, 0, 115, 0, 0, 0, 0, 0, 0, 0] := by decide
    rw [tkE, c1, if_pos rfl, c2]
  rw [e1] at he
  unfold ticketA at he
  refine AC.of_body (M := []) Tryz.func4 rfl (by kernel_rfl) (Nat.le_of_ble_eq_true rfl) ?_; simp only [Tryz.results4, Tryz.ntmps4]
  simp (dsimp := false) only [go_sem, ↓reduceIte, Nat.reduceEqDiff, Nat.reduceLT, Nat.reduceAdd, Nat.reduceSub, Nat.reduceMul, Nat.reduceLeDiff, reduceCtorEq, Int.reduceNeg, Int.reduceToNat, Int.reduceLT, Int.reduceLE, Int.reduceGE, Int.reduceGT, Int.reduceEq]
  refine ACs.pure hS ?_
  simp (dsimp := false) only [go_sem, ↓reduceIte, Nat.reduceEqDiff, Nat.reduceLT, Nat.reduceAdd, Nat.reduceSub, Nat.reduceMul, Nat.reduceLeDiff, reduceCtorEq, Int.reduceNeg, Int.reduceToNat, Int.reduceLT, Int.reduceLE, Int.reduceGE, Int.reduceGT, Int.reduceEq]
  refine ACs.pure he ?_
  have hb : byteA 0 = .raw (.int .u8 0) := rfl
  have hb' : byteA 97 = .raw (.int .u8 97) := rfl
  simp (dsimp := false) only [go_sem, ↓reduceIte, Nat.reduceEqDiff, Nat.reduceLT, Nat.reduceAdd, Nat.reduceSub, Nat.reduceMul, Nat.reduceLeDiff, reduceCtorEq, Int.reduceNeg, Int.reduceToNat, Int.reduceLT, Int.reduceLE, Int.reduceGE, Int.reduceGT, Int.reduceEq, hb, hb']
def long6B (n i r s t : ByteArray) : Bool := decide ((n.size : Int) > 100) || decide ((i.size : Int) > 100) || decide ((r.size : Int) > 100) || decide ((s.size : Int) > 100) || decide ((t.size : Int) > 100)
theorem long6B_false {n i r s t : ByteArray} (h : long6B n i r s t = false) : n.size ≤ 100 ∧ i.size ≤ 100 ∧ r.size ≤ 100 ∧ s.size ≤ 100 ∧ t.size ≤ 100 := by
  unfold long6B at h
  simp only [Bool.or_eq_false_iff, decide_eq_false_iff_not] at h
  omega
theorem long6_pure (lt : Bool) (n i r : ByteArray) (ad k li is : Int) (s t : ByteArray) : PC Tryz.prog 5 [ticketA lt n i r ad k li is s t] (.raw (.bool (long6B n i r s t))) := by
  refine PC.of_ac ?_
  unfold ticketA
  refine AC.of_body (M := []) Tryz.func5 rfl (by kernel_rfl) (Nat.le_of_ble_eq_true rfl) ?_; simp only [Tryz.results5, Tryz.ntmps5]
  by_cases h1 : (n.size : Int) > 100
  · simp (dsimp := false) only [go_sem, ↓reduceIte, Nat.reduceEqDiff, Nat.reduceLT, Nat.reduceAdd, Nat.reduceSub, Nat.reduceMul, Nat.reduceLeDiff, reduceCtorEq, Int.reduceNeg, Int.reduceToNat, Int.reduceLT, Int.reduceLE, Int.reduceGE, Int.reduceGT, Int.reduceEq, h1]
    simp [long6B]; omega
  by_cases h2 : (i.size : Int) > 100
  · simp (dsimp := false) only [go_sem, ↓reduceIte, Nat.reduceEqDiff, Nat.reduceLT, Nat.reduceAdd, Nat.reduceSub, Nat.reduceMul, Nat.reduceLeDiff, reduceCtorEq, Int.reduceNeg, Int.reduceToNat, Int.reduceLT, Int.reduceLE, Int.reduceGE, Int.reduceGT, Int.reduceEq, h1, h2]
    simp [long6B]; omega
  by_cases h3 : (r.size : Int) > 100
  · simp (dsimp := false) only [go_sem, ↓reduceIte, Nat.reduceEqDiff, Nat.reduceLT, Nat.reduceAdd, Nat.reduceSub, Nat.reduceMul, Nat.reduceLeDiff, reduceCtorEq, Int.reduceNeg, Int.reduceToNat, Int.reduceLT, Int.reduceLE, Int.reduceGE, Int.reduceGT, Int.reduceEq, h1, h2, h3]
    simp [long6B]; omega
  by_cases h4 : (s.size : Int) > 100
  · simp (dsimp := false) only [go_sem, ↓reduceIte, Nat.reduceEqDiff, Nat.reduceLT, Nat.reduceAdd, Nat.reduceSub, Nat.reduceMul, Nat.reduceLeDiff, reduceCtorEq, Int.reduceNeg, Int.reduceToNat, Int.reduceLT, Int.reduceLE, Int.reduceGE, Int.reduceGT, Int.reduceEq, h1, h2, h3, h4]
    simp [long6B]; omega
  by_cases h5 : (t.size : Int) > 100
  · simp (dsimp := false) only [go_sem, ↓reduceIte, Nat.reduceEqDiff, Nat.reduceLT, Nat.reduceAdd, Nat.reduceSub, Nat.reduceMul, Nat.reduceLeDiff, reduceCtorEq, Int.reduceNeg, Int.reduceToNat, Int.reduceLT, Int.reduceLE, Int.reduceGE, Int.reduceGT, Int.reduceEq, h1, h2, h3, h4, h5]
    simp [long6B]; omega
  simp (dsimp := false) only [go_sem, ↓reduceIte, Nat.reduceEqDiff, Nat.reduceLT, Nat.reduceAdd, Nat.reduceSub, Nat.reduceMul, Nat.reduceLeDiff, reduceCtorEq, Int.reduceNeg, Int.reduceToNat, Int.reduceLT, Int.reduceLE, Int.reduceGE, Int.reduceGT, Int.reduceEq, h1, h2, h3, h4, h5]
  simp [long6B]; omega
end Go.Proofs.YtaokfnfaipdpdaaGreat.Fn
