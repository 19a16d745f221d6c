/- Messages that were made are opened. -/
import Derived.Test.YtghnigbihllnmaaGreatFn57
import Derived.Test.YtghnigbihllnmaaGreatFn19
import Derived.Test.YtghnigbihllnmaaGreatFn12
set_option linter.unusedVariables false
set_option linter.unusedSimpArgs false
namespace Go.Proofs.YtghnigbihllnmaaGreat.Fn
open Go Hl Sp Ty
set_option maxRecDepth 100000
theorem slE_ok {lt : Bool} {x : List UInt8} {ti ad tm k : Int} (h : slE lt x ti ad tm k = 0) : conChk lt x ti ad tm = 0 ∧ clsZ k ≠ 0 := by
  unfold slE at h
  split at h
  · split at h
    · cases h
    · exact ⟨‹_›, ‹_›⟩
  · exact absurd h ‹_›
theorem con_len {lt : Bool} {x : List UInt8} {ti ad tm : Int} (h : conChk lt x ti ad tm = 0) : (conB lt x ti ad tm).length ≤ 520 := by
  have h1 := conB_length lt x ti ad tm
  have h2 := conChk_ok h
  omega
theorem mk_saf {lt : Bool} {x : List UInt8} {ti ad tm k : Int} (h : slE lt x ti ad tm k = 0) : safIs (mkB true lt x ti ad tm k) lt (conB lt x ti ad tm) (boxB 6 k (conB lt x ti ad tm)) := by
  have h1 := con_len (slE_ok h).1
  have h2 := boxB_length 6 k (conB lt x ti ad tm)
  exact ⟨by rw [safOk, safChk, if_neg (by omega)], rfl⟩
theorem mk_prv {lt : Bool} {x : List UInt8} {ti ad tm k : Int} (h : slE lt x ti ad tm k = 0) : prvIs (mkB false lt x ti ad tm k) lt (boxB 5 k (conB lt x ti ad tm)) := by
  have h1 := con_len (slE_ok h).1
  have h2 := boxB_length 5 k (conB lt x ti ad tm)
  exact ⟨by rw [prvOk, prvChk, if_neg (by omega)], rfl⟩
theorem opS_mk {safe lt : Bool} {x : List UInt8} {ti ad tm k k' : Int} {d : AV} (h : slE lt x ti ad tm k = 0) (h0 : 0 ≤ k) (h1 : k < 18446744073709551616) (hd : opS safe (mkB safe lt x ti ad tm k) k' d) :
    d = if k = k' then .tup [conA lt x ti ad tm, .raw (.int .i64 0)] else .tup [conZ, .raw (.int .i64 41)] := by
  obtain ⟨hc, hk⟩ := slE_ok h
  have hl := con_len hc
  have hO : ∀ kind, kindB kind = true → openR (boxB kind k (conB lt x ti ad tm)) kind k' = if k = k' then some (conB lt x ti ad tm) else none := fun kind hkd => openR_box kind k k' _ hkd hk h0 h1 (by omega)
  refine hd.unique ?_
  by_cases hkk : k = k'
  · rw [if_pos hkk]
    cases safe
    · exact .inr (.inl ⟨lt, _, mk_prv h, .inl ⟨rfl, .inl ⟨_, x, ti, ad, tm, by rw [hO 5 (by decide), if_pos hkk], fun t e => (by cases e), ⟨hc, rfl⟩, rfl⟩⟩⟩)
    · exact .inl ⟨lt, _, _, mk_saf h, .inl ⟨rfl, .inl ⟨_, x, ti, ad, tm, by rw [hO 6 (by decide), if_pos hkk], fun t e => (by injection e), ⟨hc, rfl⟩, rfl⟩⟩⟩
  · rw [if_neg hkk]
    cases safe
    · exact .inr (.inl ⟨lt, _, mk_prv h, .inl ⟨rfl, .inr ⟨fun body y ti ad tm h _ => (by rw [hO 5 (by decide), if_neg hkk] at h; cases h), rfl⟩⟩⟩)
    · exact .inl ⟨lt, _, _, mk_saf h, .inl ⟨rfl, .inr ⟨fun body y ti ad tm h _ => (by rw [hO 6 (by decide), if_neg hkk] at h; cases h), rfl⟩⟩⟩
theorem opS_other {safe lt : Bool} {x : List UInt8} {ti ad tm k k' : Int} {d : AV} (h : slE lt x ti ad tm k = 0) (hd : opS (!safe) (mkB safe lt x ti ad tm k) k' d) : d = .tup [conZ, .raw (.int .i64 40)] := by
  refine hd.unique ?_
  cases safe
  · exact .inr (.inl ⟨lt, _, mk_prv h, .inr ⟨rfl, rfl⟩⟩)
  · exact .inl ⟨lt, _, _, mk_saf h, .inr ⟨rfl, rfl⟩⟩
theorem mkB_length {safe lt : Bool} {x : List UInt8} {ti ad tm k : Int} (h : slE lt x ti ad tm k = 0) : (mkB safe lt x ti ad tm k).length ≤ 2000 := by
  have h1 := con_len (slE_ok h).1
  unfold mkB
  split
  · rw [safB, List.length_append, hdB_length, safF_length, boxB_length]; omega
  · rw [prvB, List.length_append, hdB_length, prvF_length, boxB_length]; omega
theorem mkA_form (safe lt : Bool) (x : List UInt8) (ti ad tm k : Int) : ∃ (y : List UInt8) (e : Int), mkA safe lt x ti ad tm k = .tup [.lst 1 (y.map byteA), .raw (.int .i64 e)] ∧ y.length ≤ 2000 := by
  refine ⟨_, _, rfl, ?_⟩
  split
  · exact mkB_length ‹_›
  · exact Nat.zero_le _
theorem Same11_refl (lt lt' : Bool) (x : List UInt8) (ti ad tm : Int) : PC Tryz.prog 52 [conA lt x ti ad tm, conA lt' x ti ad tm] (.raw (.bool true)) := by
  refine PC.of_ac ?_
  unfold conA
  refine AC.of_body (M := []) Tryz.func52 rfl (by kernel_rfl) (Nat.le_of_ble_eq_true rfl) ?_; simp only [Tryz.results52, Tryz.ntmps52]
  simp (dsimp := false) only [go_sem, ↓reduceIte, Nat.reduceEqDiff, Nat.reduceLT, Nat.reduceAdd, Nat.reduceSub, Nat.reduceMul, Nat.reduceLeDiff, reduceCtorEq, Int.reduceNeg, Int.reduceToNat, Int.reduceLT, Int.reduceLE, Int.reduceGE, Int.reduceGT, Int.reduceEq, bytes_eq]
theorem content11_det (data bs : List UInt8) (hb : bs.length ≤ 140737488355328) : ∃ ti ad tm, (0 ≤ ti ∧ ti ≤ 199 ∧ 0 ≤ ad ∧ ad ≤ 4294967295 ∧ 0 ≤ tm ∧ tm ≤ 4294967295) ∧ ∀ data : List UInt8, PC Tryz.prog 44 [.lst 1 (data.map byteA), .lst 1 (bs.map byteA)] (conA false data ti ad tm) := by
  obtain ⟨ad_, hA, n, i, r, c, t, m, hd, hok⟩ := Auth_det bs hb
  refine ⟨t, c, m, ⟨hok.2.2.2.1, hok.2.2.2.2.1, hok.2.1, hok.2.2.1, hok.2.2.2.2.2.1, hok.2.2.2.2.2.2⟩, fun data => ?_⟩
  subst hd
  refine PC.of_ac ?_
  unfold authA at hA
  unfold conA
  refine AC.of_body (M := []) Tryz.func44 rfl (by kernel_rfl) (Nat.le_of_ble_eq_true rfl) ?_; simp only [Tryz.results44, Tryz.ntmps44]
  simp (dsimp := false) only [go_sem, ↓reduceIte, Nat.reduceEqDiff, Nat.reduceLT, Nat.reduceAdd, Nat.reduceSub, Nat.reduceMul, Nat.reduceLeDiff, reduceCtorEq, Int.reduceNeg, Int.reduceToNat, Int.reduceLT, Int.reduceLE, Int.reduceGE, Int.reduceGT, Int.reduceEq]
  intro k1 hk1
  refine ACs.pure hA ?_
  simp (dsimp := false) only [go_sem, ↓reduceIte, Nat.reduceEqDiff, Nat.reduceLT, Nat.reduceAdd, Nat.reduceSub, Nat.reduceMul, Nat.reduceLeDiff, reduceCtorEq, Int.reduceNeg, Int.reduceToNat, Int.reduceLT, Int.reduceLE, Int.reduceGE, Int.reduceGT, Int.reduceEq]
  intro k2 hk2
  have q1 := none_ne hk2
  have a1 : ∀ (own : Own) o, (own.set k2 o) k1 = own k1 := fun own o => Own.set_ne _ _ (Ne.symm q1)
  have a2 : ∀ (own : Own) o, (own.set k1 o) k2 = own k2 := fun own o => Own.set_ne _ _ q1
  (try simp (dsimp := false) only [go_sem, ↓reduceIte, Nat.reduceEqDiff, Nat.reduceLT, Nat.reduceAdd, Nat.reduceSub, Nat.reduceMul, Nat.reduceLeDiff, reduceCtorEq, Int.reduceNeg, Int.reduceToNat, Int.reduceLT, Int.reduceLE, Int.reduceGE, Int.reduceGT, Int.reduceEq, a1, a2])
set_option maxHeartbeats 4000000 in
theorem awake11_pure : PC Tryz.prog 43 [] (.raw (.bool true)) := by
  refine PC.of_ac ?_
  have hS := Session_pure 1 (by decide) (by decide)
  rw [show (144115188075855873 + 1 : Int) = 144115188075855874 by decide] at hS
  have hE : slE true [] 3 0 9 144115188075855874 = 0 := by decide
  have hM := MakeSafe_pure true [] 3 0 9 144115188075855874 (by decide) (by decide) (by decide)
  rw [mkA, hE, if_pos rfl] at hM
  have hl : (mkB true true [] 3 0 9 144115188075855874).length = 50 := by decide
  have hop : ∀ d, opS true (mkB true true [] 3 0 9 144115188075855874) 144115188075855874 d → d = .tup [conA true [] 3 0 9, .raw (.int .i64 0)] := fun d h => by rw [opS_mk hE (by decide) (by decide) h, if_pos rfl]
  obtain ⟨B, hB⟩ : ∃ B, mkB true true [] 3 0 9 144115188075855874 = B := ⟨_, rfl⟩
  rw [hB] at hM hl hop
  unfold conA at hM
  have hl' : (B.length : Int) = 50 := by omega
  refine AC.of_body (M := []) Tryz.func43 rfl (by kernel_rfl) (Nat.le_of_ble_eq_true rfl) ?_; simp only [Tryz.results43, Tryz.ntmps43]
  simp (dsimp := false) only [go_sem, ↓reduceIte, Nat.reduceEqDiff, Nat.reduceLT, Nat.reduceAdd, Nat.reduceSub, Nat.reduceMul, Nat.reduceLeDiff, reduceCtorEq, Int.reduceNeg, Int.reduceToNat, Int.reduceLT, Int.reduceLE, Int.reduceGE, Int.reduceGT, Int.reduceEq]
  refine ACs.pure hS ?_
  simp (dsimp := false) only [go_sem, ↓reduceIte, Nat.reduceEqDiff, Nat.reduceLT, Nat.reduceAdd, Nat.reduceSub, Nat.reduceMul, Nat.reduceLeDiff, reduceCtorEq, Int.reduceNeg, Int.reduceToNat, Int.reduceLT, Int.reduceLE, Int.reduceGE, Int.reduceGT, Int.reduceEq]
  refine ACs.arg (pre := []) (post := [.raw (.bool true), .raw (.int .u64 144115188075855874)]) (Weak1.st (Weak.one (pre := []) (Weak1.nil (wd := 1)))) ?_
  refine ACs.pure hM ?_
  simp (dsimp := false) only [go_sem, ↓reduceIte, Nat.reduceEqDiff, Nat.reduceLT, Nat.reduceAdd, Nat.reduceSub, Nat.reduceMul, Nat.reduceLeDiff, reduceCtorEq, Int.reduceNeg, Int.reduceToNat, Int.reduceLT, Int.reduceLE, Int.reduceGE, Int.reduceGT, Int.reduceEq]
  refine ACs.pn (OpenSafe_pn B 144115188075855874 (by omega)) ?_
  intro d hd
  have hd := hop d hd
  subst hd
  unfold conA
  simp (dsimp := false) only [go_sem, ↓reduceIte, Nat.reduceEqDiff, Nat.reduceLT, Nat.reduceAdd, Nat.reduceSub, Nat.reduceMul, Nat.reduceLeDiff, reduceCtorEq, Int.reduceNeg, Int.reduceToNat, Int.reduceLT, Int.reduceLE, Int.reduceGE, Int.reduceGT, Int.reduceEq]
  intro k1 hk1
  simp (dsimp := false) only [go_sem, ↓reduceIte, Nat.reduceEqDiff, Nat.reduceLT, Nat.reduceAdd, Nat.reduceSub, Nat.reduceMul, Nat.reduceLeDiff, reduceCtorEq, Int.reduceNeg, Int.reduceToNat, Int.reduceLT, Int.reduceLE, Int.reduceGE, Int.reduceGT, Int.reduceEq, hl']
end Go.Proofs.YtghnigbihllnmaaGreat.Fn
