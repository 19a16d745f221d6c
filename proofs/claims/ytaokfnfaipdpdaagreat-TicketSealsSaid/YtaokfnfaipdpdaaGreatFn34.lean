/- Tickets are sealed and opened. -/
import Derived.Test.YtaokfnfaipdpdaaGreatHlC
import Derived.Test.YtaokfnfaipdpdaaGreatSp1
import Derived.Test.YtaokfnfaipdpdaaGreatTy
import Derived.Test.YtaokfnfaipdpdaaGreatFn19
import Derived.Test.YtaokfnfaipdpdaaGreatFn21
import Derived.Test.YtaokfnfaipdpdaaGreatFn27
import Derived.Test.YtaokfnfaipdpdaaGreatFn28
import Derived.Test.YtaokfnfaipdpdaaGreatFn30
import Derived.Test.YtaokfnfaipdpdaaGreatFn31
import Derived.Test.YtaokfnfaipdpdaaGreatFn33
set_option linter.unusedVariables false
set_option linter.unusedSimpArgs false
namespace Go.Proofs.YtaokfnfaipdpdaaGreat.Fn
open Go Hl Sp Ty
set_option maxRecDepth 100000
/-- What Seal answers. -/
def tkSealA (lt : Bool) (n i r : ByteArray) (ad k li is : Int) (s t : ByteArray) (key : Int) : AV := if tkChk n i r ad k li is s t = 0 then boxM 1 key (tkB lt n i r ad k li is s t) else .tup [.lst 1 [], .raw (.int .i64 (tkChk n i r ad k li is s t))]
theorem boxM_form (kind k : Int) (body : List UInt8) : ∃ (x : List UInt8) (e : Int), boxM kind k body = .tup [.lst 1 (x.map byteA), .raw (.int .i64 e)] ∧ x.length ≤ body.length + 12 := by
  refine ⟨_, _, rfl, ?_⟩
  split
  · simp only [boxB, List.length_append, numB_length, List.length_cons, List.length_nil]
    omega
  · exact Nat.zero_le _
theorem tkSealA_form (lt : Bool) (n i r : ByteArray) (ad k li is : Int) (s t : ByteArray) (key : Int) (hn : n.size ≤ 1000) (hi : i.size ≤ 1000) (hr : r.size ≤ 1000) (hs : s.size ≤ 1000) (ht : t.size ≤ 1000) : ∃ (x : List UInt8) (e : Int), tkSealA lt n i r ad k li is s t key = .tup [.lst 1 (x.map byteA), .raw (.int .i64 e)] ∧ x.length ≤ 10000 := by
  unfold tkSealA
  split
  · obtain ⟨x, e, h1, h2⟩ := boxM_form 1 key (tkB lt n i r ad k li is s t)
    have := tkB_length lt n i r ad k li is s t
    exact ⟨x, e, h1, by omega⟩
  · exact ⟨[], _, rfl, Nat.zero_le _⟩
set_option maxHeartbeats 4000000 in
theorem tkSeal_pure (lt : Bool) (n i r : ByteArray) (ad k li is : Int) (s t : ByteArray) (key : Int) (hn : n.size ≤ 1000) (hi : i.size ≤ 1000) (hr : r.size ≤ 1000) (hs : s.size ≤ 1000) (ht : t.size ≤ 1000) (hk : 0 ≤ k) (hk' : k < 18446744073709551616) (hk0 : 0 ≤ key) (hk1 : key < 18446744073709551616) :
    PC Tryz.prog 8 [ticketA lt n i r ad k li is s t, .raw (.int .u64 key)] (tkSealA lt n i r ad k li is s t key) := by
  refine PC.post ?_
  have hE := tkEncode_pure lt n i r ad k li is s t (by omega) (by omega) (by omega) (by omega) (by omega) hk hk'
  have hl := tkB_length lt n i r ad k li is s t
  have hM := boxMake_pure 1 key (tkB lt n i r ad k li is s t) hk0 hk1 (by omega)
  unfold tkSealA
  by_cases h0 : tkChk n i r ad k li is s t = 0
  · rw [if_pos h0]
    rw [tkE, h0, if_pos rfl] at hE
    obtain ⟨x, hx⟩ : ∃ x, tkB lt n i r ad k li is s t = x := ⟨_, rfl⟩
    rw [hx] at hE hM hl ⊢
    unfold boxM at hM ⊢
    unfold ticketA at hE ⊢
    refine AC.of_body (M := []) Tryz.func8 rfl (by kernel_rfl) (Nat.le_of_ble_eq_true rfl) ?_; simp only [Tryz.results8, Tryz.ntmps8]
    simp (dsimp := false) only [go_sem, ↓reduceIte, Nat.reduceEqDiff, Nat.reduceLT, Nat.reduceAdd, Nat.reduceSub, Nat.reduceMul, Nat.reduceLeDiff, reduceCtorEq, Int.reduceNeg, Int.reduceToNat, Int.reduceLT, Int.reduceLE, Int.reduceGE, Int.reduceGT, Int.reduceEq]
    refine ACs.pure hE ?_
    simp (dsimp := false) only [go_sem, ↓reduceIte, Nat.reduceEqDiff, Nat.reduceLT, Nat.reduceAdd, Nat.reduceSub, Nat.reduceMul, Nat.reduceLeDiff, reduceCtorEq, Int.reduceNeg, Int.reduceToNat, Int.reduceLT, Int.reduceLE, Int.reduceGE, Int.reduceGT, Int.reduceEq]
    refine ACs.pure hM ?_
    simp (dsimp := false) only [go_sem, ↓reduceIte, Nat.reduceEqDiff, Nat.reduceLT, Nat.reduceAdd, Nat.reduceSub, Nat.reduceMul, Nat.reduceLeDiff, reduceCtorEq, Int.reduceNeg, Int.reduceToNat, Int.reduceLT, Int.reduceLE, Int.reduceGE, Int.reduceGT, Int.reduceEq]
    exact ⟨_, Weak1.refl _ _⟩
  · rw [if_neg h0]
    rw [tkE, if_neg h0] at hE
    unfold ticketA at hE ⊢
    refine AC.of_body (M := []) Tryz.func8 rfl (by kernel_rfl) (Nat.le_of_ble_eq_true rfl) ?_; simp only [Tryz.results8, Tryz.ntmps8]
    simp (dsimp := false) only [go_sem, ↓reduceIte, Nat.reduceEqDiff, Nat.reduceLT, Nat.reduceAdd, Nat.reduceSub, Nat.reduceMul, Nat.reduceLeDiff, reduceCtorEq, Int.reduceNeg, Int.reduceToNat, Int.reduceLT, Int.reduceLE, Int.reduceGE, Int.reduceGT, Int.reduceEq]
    refine ACs.pure hE ?_
    simp (dsimp := false) only [go_sem, ↓reduceIte, Nat.reduceEqDiff, Nat.reduceLT, Nat.reduceAdd, Nat.reduceSub, Nat.reduceMul, Nat.reduceLeDiff, reduceCtorEq, Int.reduceNeg, Int.reduceToNat, Int.reduceLT, Int.reduceLE, Int.reduceGE, Int.reduceGT, Int.reduceEq, h0]
    exact ⟨_, Weak1.nil2⟩
set_option maxHeartbeats 4000000 in
theorem rtkSeal_pure (lt : Bool) (n i r : ByteArray) (ad k li is : Int) (s t : ByteArray) (key : Int) (hn : n.size ≤ 1000) (hi : i.size ≤ 1000) (hr : r.size ≤ 1000) (hs : s.size ≤ 1000) (ht : t.size ≤ 1000) (hk : 0 ≤ k) (hk' : k < 18446744073709551616) (hk0 : 0 ≤ key) (hk1 : key < 18446744073709551616) :
    PC Tryz.prog 9 [ticketA lt n i r ad k li is s t, .raw (.int .u64 key)] (tkSealA lt n i r ad k li is s t key) := by
  refine PC.post ?_
  have hE := rtkEncode_pure lt n i r ad k li is s t (by omega) (by omega) (by omega) (by omega) (by omega) hk hk'
  have hl := tkB_length lt n i r ad k li is s t
  have hM := rboxMake_pure 1 key (tkB lt n i r ad k li is s t) hk0 hk1 (by omega)
  unfold tkSealA
  by_cases h0 : tkChk n i r ad k li is s t = 0
  · rw [if_pos h0]
    rw [tkE, h0, if_pos rfl] at hE
    obtain ⟨x, hx⟩ : ∃ x, tkB lt n i r ad k li is s t = x := ⟨_, rfl⟩
    rw [hx] at hE hM hl ⊢
    unfold boxM at hM ⊢
    unfold ticketA at hE ⊢
    refine AC.of_body (M := []) Tryz.func9 rfl (by kernel_rfl) (Nat.le_of_ble_eq_true rfl) ?_; simp only [Tryz.results9, Tryz.ntmps9]
    simp (dsimp := false) only [go_sem, ↓reduceIte, Nat.reduceEqDiff, Nat.reduceLT, Nat.reduceAdd, Nat.reduceSub, Nat.reduceMul, Nat.reduceLeDiff, reduceCtorEq, Int.reduceNeg, Int.reduceToNat, Int.reduceLT, Int.reduceLE, Int.reduceGE, Int.reduceGT, Int.reduceEq]
    refine ACs.pure hE ?_
    simp (dsimp := false) only [go_sem, ↓reduceIte, Nat.reduceEqDiff, Nat.reduceLT, Nat.reduceAdd, Nat.reduceSub, Nat.reduceMul, Nat.reduceLeDiff, reduceCtorEq, Int.reduceNeg, Int.reduceToNat, Int.reduceLT, Int.reduceLE, Int.reduceGE, Int.reduceGT, Int.reduceEq]
    refine ACs.pure hM ?_
    simp (dsimp := false) only [go_sem, ↓reduceIte, Nat.reduceEqDiff, Nat.reduceLT, Nat.reduceAdd, Nat.reduceSub, Nat.reduceMul, Nat.reduceLeDiff, reduceCtorEq, Int.reduceNeg, Int.reduceToNat, Int.reduceLT, Int.reduceLE, Int.reduceGE, Int.reduceGT, Int.reduceEq]
    exact ⟨_, Weak1.refl _ _⟩
  · rw [if_neg h0]
    rw [tkE, if_neg h0] at hE
    unfold ticketA at hE ⊢
    refine AC.of_body (M := []) Tryz.func9 rfl (by kernel_rfl) (Nat.le_of_ble_eq_true rfl) ?_; simp only [Tryz.results9, Tryz.ntmps9]
    simp (dsimp := false) only [go_sem, ↓reduceIte, Nat.reduceEqDiff, Nat.reduceLT, Nat.reduceAdd, Nat.reduceSub, Nat.reduceMul, Nat.reduceLeDiff, reduceCtorEq, Int.reduceNeg, Int.reduceToNat, Int.reduceLT, Int.reduceLE, Int.reduceGE, Int.reduceGT, Int.reduceEq]
    refine ACs.pure hE ?_
    simp (dsimp := false) only [go_sem, ↓reduceIte, Nat.reduceEqDiff, Nat.reduceLT, Nat.reduceAdd, Nat.reduceSub, Nat.reduceMul, Nat.reduceLeDiff, reduceCtorEq, Int.reduceNeg, Int.reduceToNat, Int.reduceLT, Int.reduceLE, Int.reduceGE, Int.reduceGT, Int.reduceEq, h0]
    exact ⟨_, Weak1.nil2⟩
/-- What Open answers. -/
def TOp (b : List UInt8) (key : Int) (d : AV) : Prop := match openR b 1 key with | none => d = .tup [tkZ, .raw (.int .i64 31)] | some body => DecT body d
theorem TOp.unique {b : List UInt8} {key : Int} {d d' : AV} (h : TOp b key d) (h' : TOp b key d') : d = d' := by
  unfold TOp at h h'
  split at h
  · rename_i ho
    rw [ho] at h'
    exact h.trans h'.symm
  · rename_i body ho
    rw [ho] at h'
    exact h.unique h'
theorem TOp.form {b : List UInt8} {key : Int} {d : AV} (h : TOp b key d) : ∃ lt n i r ad k li is s t e, d = .tup [ticketA lt n i r ad k li is s t, .raw (.int .i64 e)] := by
  unfold TOp at h
  split at h
  · exact ⟨_, _, _, _, _, _, _, _, _, _, _, h⟩
  · exact h.form
set_option maxHeartbeats 4000000 in
theorem tkOpen_pn (b : List UInt8) (k : Int) (hn : b.length ≤ 1000000) : PN Tryz.prog 11 [.lst 1 (b.map byteA), .raw (.int .u64 k)] (TOp b k) := by
  refine PN.of_ac ?_
  have hO := boxOpen_pure b 1 k hn
  cases ho : openR b 1 k with
  | none =>
    rw [ho, openA] at hO
    have hT : TOp b k (.tup [tkZ, .raw (.int .i64 31)]) := by unfold TOp; rw [ho]
    refine AC.of_body (M := []) Tryz.func11 rfl (by kernel_rfl) (Nat.le_of_ble_eq_true rfl) ?_; simp only [Tryz.results11, Tryz.ntmps11]
    simp (dsimp := false) only [go_sem, ↓reduceIte, Nat.reduceEqDiff, Nat.reduceLT, Nat.reduceAdd, Nat.reduceSub, Nat.reduceMul, Nat.reduceLeDiff, reduceCtorEq, Int.reduceNeg, Int.reduceToNat, Int.reduceLT, Int.reduceLE, Int.reduceGE, Int.reduceGT, Int.reduceEq]
    intro k1 _
    refine ACs.pure hO ?_
    simp (dsimp := false) only [go_sem, ↓reduceIte, Nat.reduceEqDiff, Nat.reduceLT, Nat.reduceAdd, Nat.reduceSub, Nat.reduceMul, Nat.reduceLeDiff, reduceCtorEq, Int.reduceNeg, Int.reduceToNat, Int.reduceLT, Int.reduceLE, Int.reduceGE, Int.reduceGT, Int.reduceEq]
    exact hT
  | some body =>
    have hl := openR_len ho
    rw [ho, openA] at hO
    have hT : ∀ d, DecT body d → TOp b k d := fun d h => by unfold TOp; rw [ho]; exact h
    refine AC.of_body (M := []) Tryz.func11 rfl (by kernel_rfl) (Nat.le_of_ble_eq_true rfl) ?_; simp only [Tryz.results11, Tryz.ntmps11]
    simp (dsimp := false) only [go_sem, ↓reduceIte, Nat.reduceEqDiff, Nat.reduceLT, Nat.reduceAdd, Nat.reduceSub, Nat.reduceMul, Nat.reduceLeDiff, reduceCtorEq, Int.reduceNeg, Int.reduceToNat, Int.reduceLT, Int.reduceLE, Int.reduceGE, Int.reduceGT, Int.reduceEq]
    intro k1 hk1
    refine ACs.pure hO ?_
    simp (dsimp := false) only [go_sem, ↓reduceIte, Nat.reduceEqDiff, Nat.reduceLT, Nat.reduceAdd, Nat.reduceSub, Nat.reduceMul, Nat.reduceLeDiff, reduceCtorEq, Int.reduceNeg, Int.reduceToNat, Int.reduceLT, Int.reduceLE, Int.reduceGE, Int.reduceGT, Int.reduceEq]
    refine ACs.pn (tkDecode_pn body (by omega)) ?_
    intro d hd
    have hd' := hT d hd
    obtain ⟨_, _, _, _, _, _, _, _, _, _, _, rfl⟩ := hd.form
    unfold ticketA at hd' ⊢
    simp (dsimp := false) only [go_sem, ↓reduceIte, Nat.reduceEqDiff, Nat.reduceLT, Nat.reduceAdd, Nat.reduceSub, Nat.reduceMul, Nat.reduceLeDiff, reduceCtorEq, Int.reduceNeg, Int.reduceToNat, Int.reduceLT, Int.reduceLE, Int.reduceGE, Int.reduceGT, Int.reduceEq]
    (try (
      intro k2 hk2
      have q := none_ne hk2
      have a1 : ∀ (own : Own) o, (own.set k2 o) k1 = own k1 := fun own o => Own.set_ne _ _ (Ne.symm q)
      have a2 : ∀ (own : Own) o, (own.set k1 o) k2 = own k2 := fun own o => Own.set_ne _ _ q
      (try simp (dsimp := false) only [go_sem, ↓reduceIte, Nat.reduceEqDiff, Nat.reduceLT, Nat.reduceAdd, Nat.reduceSub, Nat.reduceMul, Nat.reduceLeDiff, reduceCtorEq, Int.reduceNeg, Int.reduceToNat, Int.reduceLT, Int.reduceLE, Int.reduceGE, Int.reduceGT, Int.reduceEq, a1, a2])))
    exact hd'
set_option maxHeartbeats 4000000 in
theorem rtkOpen_pn (b : List UInt8) (k : Int) (hn : b.length ≤ 1000000) : PN Tryz.prog 12 [.lst 1 (b.map byteA), .raw (.int .u64 k)] (TOp b k) := by
  refine PN.of_ac ?_
  have hO := rboxOpen_pure b 1 k hn
  cases ho : openR b 1 k with
  | none =>
    rw [ho, openA] at hO
    have hT : TOp b k (.tup [tkZ, .raw (.int .i64 31)]) := by unfold TOp; rw [ho]
    refine AC.of_body (M := []) Tryz.func12 rfl (by kernel_rfl) (Nat.le_of_ble_eq_true rfl) ?_; simp only [Tryz.results12, Tryz.ntmps12]
    simp (dsimp := false) only [go_sem, ↓reduceIte, Nat.reduceEqDiff, Nat.reduceLT, Nat.reduceAdd, Nat.reduceSub, Nat.reduceMul, Nat.reduceLeDiff, reduceCtorEq, Int.reduceNeg, Int.reduceToNat, Int.reduceLT, Int.reduceLE, Int.reduceGE, Int.reduceGT, Int.reduceEq]
    intro k1 _
    refine ACs.pure hO ?_
    simp (dsimp := false) only [go_sem, ↓reduceIte, Nat.reduceEqDiff, Nat.reduceLT, Nat.reduceAdd, Nat.reduceSub, Nat.reduceMul, Nat.reduceLeDiff, reduceCtorEq, Int.reduceNeg, Int.reduceToNat, Int.reduceLT, Int.reduceLE, Int.reduceGE, Int.reduceGT, Int.reduceEq]
    exact hT
  | some body =>
    have hl := openR_len ho
    rw [ho, openA] at hO
    have hT : ∀ d, DecT body d → TOp b k d := fun d h => by unfold TOp; rw [ho]; exact h
    refine AC.of_body (M := []) Tryz.func12 rfl (by kernel_rfl) (Nat.le_of_ble_eq_true rfl) ?_; simp only [Tryz.results12, Tryz.ntmps12]
    simp (dsimp := false) only [go_sem, ↓reduceIte, Nat.reduceEqDiff, Nat.reduceLT, Nat.reduceAdd, Nat.reduceSub, Nat.reduceMul, Nat.reduceLeDiff, reduceCtorEq, Int.reduceNeg, Int.reduceToNat, Int.reduceLT, Int.reduceLE, Int.reduceGE, Int.reduceGT, Int.reduceEq]
    intro k1 hk1
    refine ACs.pure hO ?_
    simp (dsimp := false) only [go_sem, ↓reduceIte, Nat.reduceEqDiff, Nat.reduceLT, Nat.reduceAdd, Nat.reduceSub, Nat.reduceMul, Nat.reduceLeDiff, reduceCtorEq, Int.reduceNeg, Int.reduceToNat, Int.reduceLT, Int.reduceLE, Int.reduceGE, Int.reduceGT, Int.reduceEq]
    refine ACs.pn (rtkDecode_pn body (by omega)) ?_
    intro d hd
    have hd' := hT d hd
    obtain ⟨_, _, _, _, _, _, _, _, _, _, _, rfl⟩ := hd.form
    unfold ticketA at hd' ⊢
    simp (dsimp := false) only [go_sem, ↓reduceIte, Nat.reduceEqDiff, Nat.reduceLT, Nat.reduceAdd, Nat.reduceSub, Nat.reduceMul, Nat.reduceLeDiff, reduceCtorEq, Int.reduceNeg, Int.reduceToNat, Int.reduceLT, Int.reduceLE, Int.reduceGE, Int.reduceGT, Int.reduceEq]
    (try (
      intro k2 hk2
      have q := none_ne hk2
      have a1 : ∀ (own : Own) o, (own.set k2 o) k1 = own k1 := fun own o => Own.set_ne _ _ (Ne.symm q)
      have a2 : ∀ (own : Own) o, (own.set k1 o) k2 = own k2 := fun own o => Own.set_ne _ _ q
      (try simp (dsimp := false) only [go_sem, ↓reduceIte, Nat.reduceEqDiff, Nat.reduceLT, Nat.reduceAdd, Nat.reduceSub, Nat.reduceMul, Nat.reduceLeDiff, reduceCtorEq, Int.reduceNeg, Int.reduceToNat, Int.reduceLT, Int.reduceLE, Int.reduceGE, Int.reduceGT, Int.reduceEq, a1, a2])))
    exact hd'
end Go.Proofs.YtaokfnfaipdpdaaGreat.Fn
