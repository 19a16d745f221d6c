/- Tickets are sealed and opened. -/
import Derived.Test.YtaokfnfaipdpdaaFn33
import Derived.Test.YtaokfnfaipdpdaaFn28
set_option linter.unusedVariables false
set_option linter.unusedSimpArgs false
namespace Go.Proofs.Ytaokfnfaipdpdaa.Fn
open Go Hl Sp Ty
set_option maxRecDepth 100000
/-- What Seal answers. -/
def tkSealA (lt : Bool) (n i r : ByteArray) (ad k li is : Int) (s t : ByteArray) (key : Int) : AV := if tkChk n i r ad k li is s t = 0 then boxM 1 key (tkB lt n i r ad k li is s t) else .tup [.lst 1 [], .raw (.int .i64 (tkChk n i r ad k li is s t))]
theorem boxM_form (kind k : Int) (body : List UInt8) : ∃ (x : List UInt8) (e : Int), boxM kind k body = .tup [.lst 1 (x.map byteA), .raw (.int .i64 e)] ∧ x.length ≤ body.length + 12 := by
  refine ⟨_, _, rfl, ?_⟩
  split
  · simp only [boxB, List.length_append, numB_length, List.length_cons, List.length_nil]
    omega
  · exact Nat.zero_le _
theorem tkSealA_form (lt : Bool) (n i r : ByteArray) (ad k li is : Int) (s t : ByteArray) (key : Int) (hn : n.size ≤ 1000) (hi : i.size ≤ 1000) (hr : r.size ≤ 1000) (hs : s.size ≤ 1000) (ht : t.size ≤ 1000) : ∃ (x : List UInt8) (e : Int), tkSealA lt n i r ad k li is s t key = .tup [.lst 1 (x.map byteA), .raw (.int .i64 e)] ∧ x.length ≤ 10000 := by
  unfold tkSealA
  split
  · obtain ⟨x, e, h1, h2⟩ := boxM_form 1 key (tkB lt n i r ad k li is s t)
    have := tkB_length lt n i r ad k li is s t
    exact ⟨x, e, h1, by omega⟩
  · exact ⟨[], _, rfl, Nat.zero_le _⟩
set_option maxHeartbeats 4000000 in
theorem tkSeal_pure (lt : Bool) (n i r : ByteArray) (ad k li is : Int) (s t : ByteArray) (key : Int) (hn : n.size ≤ 1000) (hi : i.size ≤ 1000) (hr : r.size ≤ 1000) (hs : s.size ≤ 1000) (ht : t.size ≤ 1000) (hk : 0 ≤ k) (hk' : k < 18446744073709551616) (hk0 : 0 ≤ key) (hk1 : key < 18446744073709551616) :
    PC Try.prog 34 [ticketA lt n i r ad k li is s t, .raw (.int .u64 key)] (tkSealA lt n i r ad k li is s t key) := by
  refine PC.post ?_
  have hE := tkEncode_pure lt n i r ad k li is s t (by omega) (by omega) (by omega) (by omega) (by omega) hk hk'
  have hl := tkB_length lt n i r ad k li is s t
  have hM := boxMake_pure 1 key (tkB lt n i r ad k li is s t) hk0 hk1 (by omega)
  unfold tkSealA
  by_cases h0 : tkChk n i r ad k li is s t = 0
  · rw [if_pos h0]
    rw [tkE, h0, if_pos rfl] at hE
    obtain ⟨x, hx⟩ : ∃ x, tkB lt n i r ad k li is s t = x := ⟨_, rfl⟩
    rw [hx] at hE hM hl ⊢
    unfold boxM at hM ⊢
    unfold ticketA at hE ⊢
    refine AC.of_body (M := []) Try.func34 rfl (by kernel_rfl) (Nat.le_of_ble_eq_true rfl) ?_; simp only [Try.results34, Try.ntmps34]
    simp (dsimp := false) only [go_sem, ↓reduceIte, Nat.reduceEqDiff, Nat.reduceLT, Nat.reduceAdd, Nat.reduceSub, Nat.reduceMul, Nat.reduceLeDiff, reduceCtorEq, Int.reduceNeg, Int.reduceToNat, Int.reduceLT, Int.reduceLE, Int.reduceGE, Int.reduceGT, Int.reduceEq]
    refine ACs.pure hE ?_
    simp (dsimp := false) only [go_sem, ↓reduceIte, Nat.reduceEqDiff, Nat.reduceLT, Nat.reduceAdd, Nat.reduceSub, Nat.reduceMul, Nat.reduceLeDiff, reduceCtorEq, Int.reduceNeg, Int.reduceToNat, Int.reduceLT, Int.reduceLE, Int.reduceGE, Int.reduceGT, Int.reduceEq]
    refine ACs.pure hM ?_
    simp (dsimp := false) only [go_sem, ↓reduceIte, Nat.reduceEqDiff, Nat.reduceLT, Nat.reduceAdd, Nat.reduceSub, Nat.reduceMul, Nat.reduceLeDiff, reduceCtorEq, Int.reduceNeg, Int.reduceToNat, Int.reduceLT, Int.reduceLE, Int.reduceGE, Int.reduceGT, Int.reduceEq]
    exact ⟨_, Weak1.refl _ _⟩
  · rw [if_neg h0]
    rw [tkE, if_neg h0] at hE
    unfold ticketA at hE ⊢
    refine AC.of_body (M := []) Try.func34 rfl (by kernel_rfl) (Nat.le_of_ble_eq_true rfl) ?_; simp only [Try.results34, Try.ntmps34]
    simp (dsimp := false) only [go_sem, ↓reduceIte, Nat.reduceEqDiff, Nat.reduceLT, Nat.reduceAdd, Nat.reduceSub, Nat.reduceMul, Nat.reduceLeDiff, reduceCtorEq, Int.reduceNeg, Int.reduceToNat, Int.reduceLT, Int.reduceLE, Int.reduceGE, Int.reduceGT, Int.reduceEq]
    refine ACs.pure hE ?_
    simp (dsimp := false) only [go_sem, ↓reduceIte, Nat.reduceEqDiff, Nat.reduceLT, Nat.reduceAdd, Nat.reduceSub, Nat.reduceMul, Nat.reduceLeDiff, reduceCtorEq, Int.reduceNeg, Int.reduceToNat, Int.reduceLT, Int.reduceLE, Int.reduceGE, Int.reduceGT, Int.reduceEq, h0]
    exact ⟨_, Weak1.nil2⟩
/-- What Open answers. -/
def TOp (b : List UInt8) (key : Int) (d : AV) : Prop := match openR b 1 key with | none => d = .tup [tkZ, .raw (.int .i64 31)] | some body => DecT body d
theorem TOp.unique {b : List UInt8} {key : Int} {d d' : AV} (h : TOp b key d) (h' : TOp b key d') : d = d' := by
  unfold TOp at h h'
  split at h
  · rename_i ho
    rw [ho] at h'
    exact h.trans h'.symm
  · rename_i body ho
    rw [ho] at h'
    exact h.unique h'
theorem TOp.form {b : List UInt8} {key : Int} {d : AV} (h : TOp b key d) : ∃ lt n i r ad k li is s t e, d = .tup [ticketA lt n i r ad k li is s t, .raw (.int .i64 e)] := by
  unfold TOp at h
  split at h
  · exact ⟨_, _, _, _, _, _, _, _, _, _, _, h⟩
  · exact h.form
set_option maxHeartbeats 4000000 in
theorem tkOpen_pn (b : List UInt8) (k : Int) (hn : b.length ≤ 1000000) : PN Try.prog 35 [.lst 1 (b.map byteA), .raw (.int .u64 k)] (TOp b k) := by
  refine PN.of_ac ?_
  have hO := boxOpen_pure b 1 k hn
  cases ho : openR b 1 k with
  | none =>
    rw [ho, openA] at hO
    have hT : TOp b k (.tup [tkZ, .raw (.int .i64 31)]) := by unfold TOp; rw [ho]
    refine AC.of_body (M := []) Try.func35 rfl (by kernel_rfl) (Nat.le_of_ble_eq_true rfl) ?_; simp only [Try.results35, Try.ntmps35]
    simp (dsimp := false) only [go_sem, ↓reduceIte, Nat.reduceEqDiff, Nat.reduceLT, Nat.reduceAdd, Nat.reduceSub, Nat.reduceMul, Nat.reduceLeDiff, reduceCtorEq, Int.reduceNeg, Int.reduceToNat, Int.reduceLT, Int.reduceLE, Int.reduceGE, Int.reduceGT, Int.reduceEq]
    intro k1 _
    refine ACs.pure hO ?_
    simp (dsimp := false) only [go_sem, ↓reduceIte, Nat.reduceEqDiff, Nat.reduceLT, Nat.reduceAdd, Nat.reduceSub, Nat.reduceMul, Nat.reduceLeDiff, reduceCtorEq, Int.reduceNeg, Int.reduceToNat, Int.reduceLT, Int.reduceLE, Int.reduceGE, Int.reduceGT, Int.reduceEq]
    exact hT
  | some body =>
    have hl := openR_len ho
    rw [ho, openA] at hO
    have hT : ∀ d, DecT body d → TOp b k d := fun d h => by unfold TOp; rw [ho]; exact h
    refine AC.of_body (M := []) Try.func35 rfl (by kernel_rfl) (Nat.le_of_ble_eq_true rfl) ?_; simp only [Try.results35, Try.ntmps35]
    simp (dsimp := false) only [go_sem, ↓reduceIte, Nat.reduceEqDiff, Nat.reduceLT, Nat.reduceAdd, Nat.reduceSub, Nat.reduceMul, Nat.reduceLeDiff, reduceCtorEq, Int.reduceNeg, Int.reduceToNat, Int.reduceLT, Int.reduceLE, Int.reduceGE, Int.reduceGT, Int.reduceEq]
    intro k1 hk1
    refine ACs.pure hO ?_
    simp (dsimp := false) only [go_sem, ↓reduceIte, Nat.reduceEqDiff, Nat.reduceLT, Nat.reduceAdd, Nat.reduceSub, Nat.reduceMul, Nat.reduceLeDiff, reduceCtorEq, Int.reduceNeg, Int.reduceToNat, Int.reduceLT, Int.reduceLE, Int.reduceGE, Int.reduceGT, Int.reduceEq]
    refine ACs.pn (tkDecode_pn body (by omega)) ?_
    intro d hd
    have hd' := hT d hd
    obtain ⟨_, _, _, _, _, _, _, _, _, _, _, rfl⟩ := hd.form
    unfold ticketA at hd' ⊢
    simp (dsimp := false) only [go_sem, ↓reduceIte, Nat.reduceEqDiff, Nat.reduceLT, Nat.reduceAdd, Nat.reduceSub, Nat.reduceMul, Nat.reduceLeDiff, reduceCtorEq, Int.reduceNeg, Int.reduceToNat, Int.reduceLT, Int.reduceLE, Int.reduceGE, Int.reduceGT, Int.reduceEq]
    (try (
      intro k2 hk2
      have q := none_ne hk2
      have a1 : ∀ (own : Own) o, (own.set k2 o) k1 = own k1 := fun own o => Own.set_ne _ _ (Ne.symm q)
      have a2 : ∀ (own : Own) o, (own.set k1 o) k2 = own k2 := fun own o => Own.set_ne _ _ q
      (try simp (dsimp := false) only [go_sem, ↓reduceIte, Nat.reduceEqDiff, Nat.reduceLT, Nat.reduceAdd, Nat.reduceSub, Nat.reduceMul, Nat.reduceLeDiff, reduceCtorEq, Int.reduceNeg, Int.reduceToNat, Int.reduceLT, Int.reduceLE, Int.reduceGE, Int.reduceGT, Int.reduceEq, a1, a2])))
    exact hd'
theorem tkFor_pure (lt : Bool) (n i r : ByteArray) (ad k li is : Int) (s t : ByteArray) (realm : ByteArray) : PC Try.prog 36 [ticketA lt n i r ad k li is s t, .raw (.string realm)] (.st [.raw (.string s), .raw (.string t), .raw (.string realm)]) := by
  refine PC.of_ac ?_
  unfold ticketA
  refine AC.of_body (M := []) Try.func36 rfl (by kernel_rfl) (Nat.le_of_ble_eq_true rfl) ?_; simp only [Try.results36, Try.ntmps36]
  simp (dsimp := false) only [go_sem, ↓reduceIte, Nat.reduceEqDiff, Nat.reduceLT, Nat.reduceAdd, Nat.reduceSub, Nat.reduceMul, Nat.reduceLeDiff, reduceCtorEq, Int.reduceNeg, Int.reduceToNat, Int.reduceLT, Int.reduceLE, Int.reduceGE, Int.reduceGT, Int.reduceEq]
  (try (intro k1 hk1; (try simp (dsimp := false) only [go_sem, ↓reduceIte, Nat.reduceEqDiff, Nat.reduceLT, Nat.reduceAdd, Nat.reduceSub, Nat.reduceMul, Nat.reduceLeDiff, reduceCtorEq, Int.reduceNeg, Int.reduceToNat, Int.reduceLT, Int.reduceLE, Int.reduceGE, Int.reduceGT, Int.reduceEq])))
set_option maxHeartbeats 8000000 in
theorem TicketOpens_pc (bs : List UInt8) (nn mm : Int) (hn : 0 ≤ nn ∧ nn ≤ 255) (hm : 0 ≤ mm ∧ mm ≤ 255) :
    PC Try.prog 8 [.lst 1 (bs.map byteA), .raw (.int .u8 nn), .raw (.int .u8 mm)] (.raw (.bool true)) := by
  refine PC.of_ac ?_
  have w0 : IntKind.i64.wrap nn = nn := wrap_i64 (by omega) (by omega)
  have w1 : IntKind.i64.wrap mm = mm := wrap_i64 (by omega) (by omega)
  refine AC.of_body (M := []) Try.func8 rfl (by kernel_rfl) (Nat.le_of_ble_eq_true rfl) ?_; simp only [Try.results8, Try.ntmps8]
  simp (dsimp := false) only [go_sem, ↓reduceIte, Nat.reduceEqDiff, Nat.reduceLT, Nat.reduceAdd, Nat.reduceSub, Nat.reduceMul, Nat.reduceLeDiff, reduceCtorEq, Int.reduceNeg, Int.reduceToNat, Int.reduceLT, Int.reduceLE, Int.reduceGE, Int.reduceGT, Int.reduceEq]
  refine ACs.pure awake6_pure ?_
  by_cases h1 : (bs.length : Int) > 40
  · simp (dsimp := false) only [go_sem, ↓reduceIte, Nat.reduceEqDiff, Nat.reduceLT, Nat.reduceAdd, Nat.reduceSub, Nat.reduceMul, Nat.reduceLeDiff, reduceCtorEq, Int.reduceNeg, Int.reduceToNat, Int.reduceLT, Int.reduceLE, Int.reduceGE, Int.reduceGT, Int.reduceEq, h1]
  simp (dsimp := false) only [go_sem, ↓reduceIte, Nat.reduceEqDiff, Nat.reduceLT, Nat.reduceAdd, Nat.reduceSub, Nat.reduceMul, Nat.reduceLeDiff, reduceCtorEq, Int.reduceNeg, Int.reduceToNat, Int.reduceLT, Int.reduceLE, Int.reduceGE, Int.reduceGT, Int.reduceEq, h1]
  obtain ⟨ad_, hA, lt, n, i, r, ad, k, li, is, s, t, hd, hok⟩ := Ticket_det bs (by omega)
  have hz := hok.size
  have hl := tkB_length lt n i r ad k li is s t
  have hS := tkSeal_pure lt n i r ad k li is s t (72057594037927937 + nn) (by omega) (by omega) (by omega) (by omega) (by omega) (by omega) (by omega) (by omega) (by omega)
  have hcl := cls_long (n := nn) hn.1 (by omega)
  have hE : boxE 1 (72057594037927937 + nn) (tkB lt n i r ad k li is s t) = 0 := by
    unfold boxE; rw [if_neg (by decide), if_neg (by rw [hcl]; decide), if_neg (by omega)]
  rw [tkSealA, if_pos hok.chk, boxM, hE, if_pos rfl] at hS
  have hob := openR_box 1 (72057594037927937 + nn) (72057594037927937 + mm) (tkB lt n i r ad k li is s t) (by decide) (by rw [hcl]; decide) (by omega) (by omega) (by omega)
  have hbl : (boxB 1 (72057594037927937 + nn) (tkB lt n i r ad k li is s t)).length ≤ 255 := by
    simp only [boxB, List.length_append, numB_length, List.length_cons, List.length_nil]; omega
  have hdec : ∀ d, DecT (tkB lt n i r ad k li is s t) d → d = .tup [ticketA lt n i r ad k li is s t, .raw (.int .i64 0)] := fun d h => tk_dec hok.chk ⟨by omega, by omega⟩ h
  obtain ⟨x, hx⟩ : ∃ x, boxB 1 (72057594037927937 + nn) (tkB lt n i r ad k li is s t) = x := ⟨_, rfl⟩
  rw [hx] at hS hob hbl
  have hbl' : ¬ (x.length : Int) > 255 := by omega
  subst hd
  refine ACs.pure hA ?_
  unfold ticketA at hS ⊢
  simp (dsimp := false) only [go_sem, ↓reduceIte, Nat.reduceEqDiff, Nat.reduceLT, Nat.reduceAdd, Nat.reduceSub, Nat.reduceMul, Nat.reduceLeDiff, reduceCtorEq, Int.reduceNeg, Int.reduceToNat, Int.reduceLT, Int.reduceLE, Int.reduceGE, Int.reduceGT, Int.reduceEq]
  intro k1 hk1
  simp (dsimp := false) only [go_sem, ↓reduceIte, Nat.reduceEqDiff, Nat.reduceLT, Nat.reduceAdd, Nat.reduceSub, Nat.reduceMul, Nat.reduceLeDiff, reduceCtorEq, Int.reduceNeg, Int.reduceToNat, Int.reduceLT, Int.reduceLE, Int.reduceGE, Int.reduceGT, Int.reduceEq, w0]
  refine ACs.pure (Long_pure nn hn.1 (by omega)) ?_
  simp (dsimp := false) only [go_sem, ↓reduceIte, Nat.reduceEqDiff, Nat.reduceLT, Nat.reduceAdd, Nat.reduceSub, Nat.reduceMul, Nat.reduceLeDiff, reduceCtorEq, Int.reduceNeg, Int.reduceToNat, Int.reduceLT, Int.reduceLE, Int.reduceGE, Int.reduceGT, Int.reduceEq, w1]
  refine ACs.pure (Long_pure mm hm.1 (by omega)) ?_
  simp (dsimp := false) only [go_sem, ↓reduceIte, Nat.reduceEqDiff, Nat.reduceLT, Nat.reduceAdd, Nat.reduceSub, Nat.reduceMul, Nat.reduceLeDiff, reduceCtorEq, Int.reduceNeg, Int.reduceToNat, Int.reduceLT, Int.reduceLE, Int.reduceGE, Int.reduceGT, Int.reduceEq]
  refine ACs.pure hS ?_
  simp (dsimp := false) only [go_sem, ↓reduceIte, Nat.reduceEqDiff, Nat.reduceLT, Nat.reduceAdd, Nat.reduceSub, Nat.reduceMul, Nat.reduceLeDiff, reduceCtorEq, Int.reduceNeg, Int.reduceToNat, Int.reduceLT, Int.reduceLE, Int.reduceGE, Int.reduceGT, Int.reduceEq, hbl']
  refine ACs.pn (tkOpen_pn x _ (by omega)) ?_
  intro d hd
  by_cases hnm : nn = mm
  · subst hnm
    rw [if_pos rfl] at hob
    have hd2 : d = .tup [ticketA lt n i r ad k li is s t, .raw (.int .i64 0)] := by
      unfold TOp at hd
      rw [hob] at hd
      exact hdec d hd
    subst hd2
    have hF := tkFor_pure lt n i r ad k li is s t ⟨#[82]⟩
    unfold ticketA at hF ⊢
    simp (dsimp := false) only [go_sem, ↓reduceIte, Nat.reduceEqDiff, Nat.reduceLT, Nat.reduceAdd, Nat.reduceSub, Nat.reduceMul, Nat.reduceLeDiff, reduceCtorEq, Int.reduceNeg, Int.reduceToNat, Int.reduceLT, Int.reduceLE, Int.reduceGE, Int.reduceGT, Int.reduceEq]
    intro k2 hk2
    have q1 := none_ne hk2
    have a1 : ∀ (own : Own) o, (own.set k2 o) k1 = own k1 := fun own o => Own.set_ne _ _ (Ne.symm q1)
    have a2 : ∀ (own : Own) o, (own.set k1 o) k2 = own k2 := fun own o => Own.set_ne _ _ q1
    refine AW.ghost (Ghost.slot (t := 7) (Weak1.box (k := k1) (d := .st _) (by first | exact (a1 _ _).trans (Own.set_same _ _ _) | exact Own.set_same _ _ _) rfl rfl)) ?_
    refine AW.ghost (Ghost.slot (t := 12) (Weak1.box (k := k2) (d := .st _) (by first | exact (Own.del_ne _ q1).trans (Own.set_same _ _ _) | exact (Own.del_ne _ (Ne.symm q1)).trans (Own.set_same _ _ _)) rfl rfl)) ?_
    refine AW.draw (M := []) [.v, .v, .v, .v, .v, .v, .v, .v, .v, .e, .v, .v, .v, .v, .v, .v, .v, .v] mixed (by kernel_rfl) ?_
    simp (dsimp := false) only [go_sem, ↓reduceIte, Nat.reduceEqDiff, Nat.reduceLT, Nat.reduceAdd, Nat.reduceSub, Nat.reduceMul, Nat.reduceLeDiff, reduceCtorEq, Int.reduceNeg, Int.reduceToNat, Int.reduceLT, Int.reduceLE, Int.reduceGE, Int.reduceGT, Int.reduceEq]
    refine ACs.pure hF ?_
    simp (dsimp := false) only [go_sem, ↓reduceIte, Nat.reduceEqDiff, Nat.reduceLT, Nat.reduceAdd, Nat.reduceSub, Nat.reduceMul, Nat.reduceLeDiff, reduceCtorEq, Int.reduceNeg, Int.reduceToNat, Int.reduceLT, Int.reduceLE, Int.reduceGE, Int.reduceGT, Int.reduceEq]
  · rw [if_neg (by omega)] at hob
    have hd2 : d = .tup [tkZ, .raw (.int .i64 31)] := by
      unfold TOp at hd
      rw [hob] at hd
      exact hd
    subst hd2
    unfold tkZ ticketA
    simp (dsimp := false) only [go_sem, ↓reduceIte, Nat.reduceEqDiff, Nat.reduceLT, Nat.reduceAdd, Nat.reduceSub, Nat.reduceMul, Nat.reduceLeDiff, reduceCtorEq, Int.reduceNeg, Int.reduceToNat, Int.reduceLT, Int.reduceLE, Int.reduceGE, Int.reduceGT, Int.reduceEq]
    intro k2 hk2
    have q1 := none_ne hk2
    have a1 : ∀ (own : Own) o, (own.set k2 o) k1 = own k1 := fun own o => Own.set_ne _ _ (Ne.symm q1)
    have a2 : ∀ (own : Own) o, (own.set k1 o) k2 = own k2 := fun own o => Own.set_ne _ _ q1
    have hne : ¬ ((72057594037927937 : Int) + nn = 72057594037927937 + mm) := by omega
    simp (dsimp := false) only [go_sem, ↓reduceIte, Nat.reduceEqDiff, Nat.reduceLT, Nat.reduceAdd, Nat.reduceSub, Nat.reduceMul, Nat.reduceLeDiff, reduceCtorEq, Int.reduceNeg, Int.reduceToNat, Int.reduceLT, Int.reduceLE, Int.reduceGE, Int.reduceGT, Int.reduceEq, a1, a2, hne]
end Go.Proofs.Ytaokfnfaipdpdaa.Fn
