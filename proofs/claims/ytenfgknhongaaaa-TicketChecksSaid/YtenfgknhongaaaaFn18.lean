/- The law on the bytes of authenticators. -/
import Derived.Test.YtenfgknhongaaaaFn17
set_option linter.unusedVariables false
set_option linter.unusedSimpArgs false
namespace Go.Proofs.Ytenfgknhongaaaa.Fn
open Go Hl Sp Ty
set_option maxRecDepth 100000
theorem authB_flag {n i r n' i' r' : ByteArray} {c t m c' t' m' : Int} {little : Bool} (h : authB n i r c t m little = authB n' i' r' c' t' m' (!little)) : False := by
  have h1 := congrArg (fun l => l.head?) h
  simp only [authB, padB, authPre, List.append_assoc, List.singleton_append, List.cons_append, List.head?_cons, Option.some.injEq] at h1
  cases little
  · exact absurd h1 (by decide)
  · exact absurd h1 (by decide)
theorem auth_dec {n i r : ByteArray} {c t m : Int} {little : Bool} {d : AV} (h0 : authChk n i r c t m = 0) (h : DecS (authB n i r c t m little) little d) : d = .tup [authA n i r c t m, .raw (.int .i64 0)] :=
  h.unique (.inl ⟨_, _, _, _, _, _, ⟨authChk_ok h0, rfl⟩, rfl⟩)
theorem auth_dec' {n i r : ByteArray} {c t m : Int} {little : Bool} {d : AV} (h : DecS (authB n i r c t m little) (!little) d) : d = .tup [authA ⟨#[]⟩ ⟨#[]⟩ ⟨#[]⟩ 0 0 0, .raw (.int .i64 100)] :=
  h.unique (.inr ⟨fun _ _ _ _ _ _ h => authB_flag h.2.symm, rfl⟩)
theorem authB_length (n i r : ByteArray) (c t m : Int) (little : Bool) : (authB n i r c t m little).length ≤ n.size + i.size + r.size + 21 := by
  simp only [authB, padB, List.length_append, authPre_length, List.length_replicate, padN]; omega
set_option maxHeartbeats 4000000 in
theorem AuthenticatorEncodes_pc (n i r : ByteArray) (c t m : Int) (bs : List UInt8) (little : Bool) :
    PC Try.prog 14 [authA n i r c t m, .lst 1 (bs.map byteA), .raw (.bool little)] (.raw (.bool true)) := by
  refine PC.of_ac ?_
  have hlong := long7_pure n i r c t m
  unfold authA at hlong ⊢
  refine AC.of_body (M := []) Try.func14 rfl (by kernel_rfl) (Nat.le_of_ble_eq_true rfl) ?_; simp only [Try.results14, Try.ntmps14]
  simp (dsimp := false) only [go_sem, ↓reduceIte, Nat.reduceEqDiff, Nat.reduceLT, Nat.reduceAdd, Nat.reduceSub, Nat.reduceMul, Nat.reduceLeDiff, reduceCtorEq, Int.reduceNeg, Int.reduceToNat, Int.reduceLT, Int.reduceLE, Int.reduceEq]
  refine ACs.pure awake7_pure ?_
  simp (dsimp := false) only [go_sem, ↓reduceIte, Nat.reduceEqDiff, Nat.reduceLT, Nat.reduceAdd, Nat.reduceSub, Nat.reduceMul, Nat.reduceLeDiff, reduceCtorEq, Int.reduceNeg, Int.reduceToNat, Int.reduceLT, Int.reduceLE, Int.reduceEq]
  refine ACs.pure hlong ?_
  rcases Bool.eq_false_or_eq_true (longB n i r) with hl | hl
  · simp (dsimp := false) only [go_sem, ↓reduceIte, Nat.reduceEqDiff, Nat.reduceLT, Nat.reduceAdd, Nat.reduceSub, Nat.reduceMul, Nat.reduceLeDiff, reduceCtorEq, Int.reduceNeg, Int.reduceToNat, Int.reduceLT, Int.reduceLE, Int.reduceEq, hl]
  by_cases h2 : (bs.length : Int) > 40
  · simp (dsimp := false) only [go_sem, ↓reduceIte, Nat.reduceEqDiff, Nat.reduceLT, Nat.reduceAdd, Nat.reduceSub, Nat.reduceMul, Nat.reduceLeDiff, reduceCtorEq, Int.reduceNeg, Int.reduceToNat, Int.reduceLT, Int.reduceLE, Int.reduceEq, hl, h2]
  simp (dsimp := false) only [go_sem, ↓reduceIte, Nat.reduceEqDiff, Nat.reduceLT, Nat.reduceAdd, Nat.reduceSub, Nat.reduceMul, Nat.reduceLeDiff, reduceCtorEq, Int.reduceNeg, Int.reduceToNat, Int.reduceLT, Int.reduceLE, Int.reduceEq, hl, h2]
  have hz' := longB_false hl
  obtain ⟨ad, hA, n', i', r', c', t', m', hd, hok⟩ := Auth_det bs (by omega)
  have hz := validB_size hok.1
  unfold authA at hd
  refine AW.loopJ (M := []) (X := Nat) (fun j => ⟨85, tmL [(1, .lst 1 (bs.map byteA)), (2, .raw (.bool little)), (3, .ref (.st [.raw (.string n), .raw (.string i), .raw (.string r), .raw (.int .i64 c), .raw (.int .i64 t), .raw (.int .i64 m)])), (7, .raw (.int .i64 j))], noOwn⟩)
    (fun j => j ≤ 2) (fun j => 2 - j) 0 (by decide) ?_ ?_
  · (refine Ghost.same ?_; (repeat' (first | exact all_nil | refine all_cons ?_ ?_)) <;> (first | (simp (dsimp := false) only [go_sem, ↓reduceIte, Nat.reduceEqDiff, Nat.reduceLT, Nat.reduceAdd, Nat.reduceSub, Nat.reduceMul, Nat.reduceLeDiff, reduceCtorEq, Int.reduceNeg, Int.reduceToNat, Int.reduceLT, Int.reduceLE, Int.reduceEq]; done) | (simp (dsimp := false) only [go_sem, ↓reduceIte, Nat.reduceEqDiff, Nat.reduceLT, Nat.reduceAdd, Nat.reduceSub, Nat.reduceMul, Nat.reduceLeDiff, reduceCtorEq, Int.reduceNeg, Int.reduceToNat, Int.reduceLT, Int.reduceLE, Int.reduceEq]; rfl)))
  intro j hj
  have hj3 : j = 0 ∨ j = 1 ∨ j = 2 := by omega
  have w1 : IntKind.i64.wrap (0 + 1) = ((1 : Nat) : Int) := by decide
  have w2 : IntKind.i64.wrap (1 + 1) = ((2 : Nat) : Int) := by decide
  have hbn : bytesOf [] = some [] := rfl
  rcases hj3 with rfl | rfl | rfl
  case inr.inr => simp (dsimp := false) only [go_sem, ↓reduceIte, Nat.reduceEqDiff, Nat.reduceLT, Nat.reduceAdd, Nat.reduceSub, Nat.reduceMul, Nat.reduceLeDiff, reduceCtorEq, Int.reduceNeg, Int.reduceToNat, Int.reduceLT, Int.reduceLE, Int.reduceEq]
  all_goals
    simp (dsimp := false) only [go_sem, ↓reduceIte, Nat.reduceEqDiff, Nat.reduceLT, Nat.reduceAdd, Nat.reduceSub, Nat.reduceMul, Nat.reduceLeDiff, reduceCtorEq, Int.reduceNeg, Int.reduceToNat, Int.reduceLT, Int.reduceLE, Int.reduceEq]
    refine AW.draw (M := []) [.v, .v, .c (ad), .v, .v, .v, .v, .e, .e] mixed (by kernel_rfl) ?_
    subst hd
    simp (dsimp := false) only [go_sem, ↓reduceIte, Nat.reduceEqDiff, Nat.reduceLT, Nat.reduceAdd, Nat.reduceSub, Nat.reduceMul, Nat.reduceLeDiff, reduceCtorEq, Int.reduceNeg, Int.reduceToNat, Int.reduceLT, Int.reduceLE, Int.reduceEq]
    refine ⟨VSem.call rfl rfl hA, ?_⟩
    intro k hk
    have hE1 := fun n i r c t m hn hi hr => authEncode_pure n i r c t m little hn hi hr
    have hE2 := fun n i r c t m hn hi hr => rauthEncode_pure n i r c t m little hn hi hr
    unfold authA authE at hE1 hE2
    refine ACs.pure (hE1 _ _ _ _ _ _ (by omega) (by omega) (by omega)) ?_
    simp (dsimp := false) only [go_sem, ↓reduceIte, Nat.reduceEqDiff, Nat.reduceLT, Nat.reduceAdd, Nat.reduceSub, Nat.reduceMul, Nat.reduceLeDiff, reduceCtorEq, Int.reduceNeg, Int.reduceToNat, Int.reduceLT, Int.reduceLE, Int.reduceEq]
    refine ACs.pure (hE2 _ _ _ _ _ _ (by omega) (by omega) (by omega)) ?_
  case inl =>
    by_cases h0 : authChk n i r c t m = 0
    · simp (dsimp := false) only [go_sem, ↓reduceIte, Nat.reduceEqDiff, Nat.reduceLT, Nat.reduceAdd, Nat.reduceSub, Nat.reduceMul, Nat.reduceLeDiff, reduceCtorEq, Int.reduceNeg, Int.reduceToNat, Int.reduceLT, Int.reduceLE, Int.reduceEq, h0, bytes_eq]
      have hl := authB_length n i r c t m little
      refine ACs.pn (authDecode_pn _ little (by omega)) ?_
      intro d hd
      have hd := auth_dec h0 hd
      subst hd
      unfold authA
      simp (dsimp := false) only [go_sem, ↓reduceIte, Nat.reduceEqDiff, Nat.reduceLT, Nat.reduceAdd, Nat.reduceSub, Nat.reduceMul, Nat.reduceLeDiff, reduceCtorEq, Int.reduceNeg, Int.reduceToNat, Int.reduceLT, Int.reduceLE, Int.reduceEq]
      intro k2 hk2
      refine ACs.pn (authDecode_pn _ (!little) (by omega)) ?_
      intro d hd
      have hd := auth_dec' hd
      subst hd
      unfold authA
      have q1 := none_ne hk2
      have q2 : ∀ (own : Own) o, (own.set k2 o) k = own k := fun own o => Own.set_ne _ _ (Ne.symm q1)
      have q3 : ∀ (own : Own) o, (own.set k o) k2 = own k2 := fun own o => Own.set_ne _ _ q1
      simp (dsimp := false) only [go_sem, ↓reduceIte, Nat.reduceEqDiff, Nat.reduceLT, Nat.reduceAdd, Nat.reduceSub, Nat.reduceMul, Nat.reduceLeDiff, reduceCtorEq, Int.reduceNeg, Int.reduceToNat, Int.reduceLT, Int.reduceLE, Int.reduceEq]
      intro k3 hk3
      have q4 := none_ne hk3
      rw [Own.set_ne _ _ q4] at hk3
      have q5 := none_ne hk3
      have q6 : ∀ (own : Own) o, (own.set k3 o) k2 = own k2 := fun own o => Own.set_ne _ _ (Ne.symm q4)
      have q7 : ∀ (own : Own) o, (own.set k3 o) k = own k := fun own o => Own.set_ne _ _ (Ne.symm q5)
      simp (dsimp := false) only [go_sem, ↓reduceIte, Nat.reduceEqDiff, Nat.reduceLT, Nat.reduceAdd, Nat.reduceSub, Nat.reduceMul, Nat.reduceLeDiff, reduceCtorEq, Int.reduceNeg, Int.reduceToNat, Int.reduceLT, Int.reduceLE, Int.reduceEq, q2, q3, q6, q7, w1]
      refine ⟨1, by omega, ?_, by omega⟩
      (refine Ghost.of ?_ (fun _ _ h => by cases h); (repeat' (first | exact all_nil | refine all_cons ?_ ?_)) <;> (first | (simp (dsimp := false) only [go_sem, ↓reduceIte, Nat.reduceEqDiff, Nat.reduceLT, Nat.reduceAdd, Nat.reduceSub, Nat.reduceMul, Nat.reduceLeDiff, reduceCtorEq, Int.reduceNeg, Int.reduceToNat, Int.reduceLT, Int.reduceLE, Int.reduceEq]; done) | (simp (dsimp := false) only [go_sem, ↓reduceIte, Nat.reduceEqDiff, Nat.reduceLT, Nat.reduceAdd, Nat.reduceSub, Nat.reduceMul, Nat.reduceLeDiff, reduceCtorEq, Int.reduceNeg, Int.reduceToNat, Int.reduceLT, Int.reduceLE, Int.reduceEq]; rfl)))
    · simp (dsimp := false) only [go_sem, ↓reduceIte, Nat.reduceEqDiff, Nat.reduceLT, Nat.reduceAdd, Nat.reduceSub, Nat.reduceMul, Nat.reduceLeDiff, reduceCtorEq, Int.reduceNeg, Int.reduceToNat, Int.reduceLT, Int.reduceLE, Int.reduceEq, h0, bytes_eq, hbn, w1]
      refine ⟨1, by omega, ?_, by omega⟩
      (refine Ghost.of ?_ (fun _ _ h => by cases h); (repeat' (first | exact all_nil | refine all_cons ?_ ?_)) <;> (first | (simp (dsimp := false) only [go_sem, ↓reduceIte, Nat.reduceEqDiff, Nat.reduceLT, Nat.reduceAdd, Nat.reduceSub, Nat.reduceMul, Nat.reduceLeDiff, reduceCtorEq, Int.reduceNeg, Int.reduceToNat, Int.reduceLT, Int.reduceLE, Int.reduceEq]; done) | (simp (dsimp := false) only [go_sem, ↓reduceIte, Nat.reduceEqDiff, Nat.reduceLT, Nat.reduceAdd, Nat.reduceSub, Nat.reduceMul, Nat.reduceLeDiff, reduceCtorEq, Int.reduceNeg, Int.reduceToNat, Int.reduceLT, Int.reduceLE, Int.reduceEq]; rfl)))
  case inr.inl =>
    by_cases h0 : authChk n' i' r' c' t' m' = 0
    · simp (dsimp := false) only [go_sem, ↓reduceIte, Nat.reduceEqDiff, Nat.reduceLT, Nat.reduceAdd, Nat.reduceSub, Nat.reduceMul, Nat.reduceLeDiff, reduceCtorEq, Int.reduceNeg, Int.reduceToNat, Int.reduceLT, Int.reduceLE, Int.reduceEq, h0, bytes_eq]
      have hl := authB_length n' i' r' c' t' m' little
      refine ACs.pn (authDecode_pn _ little (by omega)) ?_
      intro d hd
      have hd := auth_dec h0 hd
      subst hd
      unfold authA
      simp (dsimp := false) only [go_sem, ↓reduceIte, Nat.reduceEqDiff, Nat.reduceLT, Nat.reduceAdd, Nat.reduceSub, Nat.reduceMul, Nat.reduceLeDiff, reduceCtorEq, Int.reduceNeg, Int.reduceToNat, Int.reduceLT, Int.reduceLE, Int.reduceEq]
      intro k2 hk2
      refine ACs.pn (authDecode_pn _ (!little) (by omega)) ?_
      intro d hd
      have hd := auth_dec' hd
      subst hd
      unfold authA
      have q1 := none_ne hk2
      have q2 : ∀ (own : Own) o, (own.set k2 o) k = own k := fun own o => Own.set_ne _ _ (Ne.symm q1)
      have q3 : ∀ (own : Own) o, (own.set k o) k2 = own k2 := fun own o => Own.set_ne _ _ q1
      simp (dsimp := false) only [go_sem, ↓reduceIte, Nat.reduceEqDiff, Nat.reduceLT, Nat.reduceAdd, Nat.reduceSub, Nat.reduceMul, Nat.reduceLeDiff, reduceCtorEq, Int.reduceNeg, Int.reduceToNat, Int.reduceLT, Int.reduceLE, Int.reduceEq]
      intro k3 hk3
      have q4 := none_ne hk3
      rw [Own.set_ne _ _ q4] at hk3
      have q5 := none_ne hk3
      have q6 : ∀ (own : Own) o, (own.set k3 o) k2 = own k2 := fun own o => Own.set_ne _ _ (Ne.symm q4)
      have q7 : ∀ (own : Own) o, (own.set k3 o) k = own k := fun own o => Own.set_ne _ _ (Ne.symm q5)
      simp (dsimp := false) only [go_sem, ↓reduceIte, Nat.reduceEqDiff, Nat.reduceLT, Nat.reduceAdd, Nat.reduceSub, Nat.reduceMul, Nat.reduceLeDiff, reduceCtorEq, Int.reduceNeg, Int.reduceToNat, Int.reduceLT, Int.reduceLE, Int.reduceEq, q2, q3, q6, q7, w2]
      refine ⟨2, by omega, ?_, by omega⟩
      (refine Ghost.of ?_ (fun _ _ h => by cases h); (repeat' (first | exact all_nil | refine all_cons ?_ ?_)) <;> (first | (simp (dsimp := false) only [go_sem, ↓reduceIte, Nat.reduceEqDiff, Nat.reduceLT, Nat.reduceAdd, Nat.reduceSub, Nat.reduceMul, Nat.reduceLeDiff, reduceCtorEq, Int.reduceNeg, Int.reduceToNat, Int.reduceLT, Int.reduceLE, Int.reduceEq]; done) | (simp (dsimp := false) only [go_sem, ↓reduceIte, Nat.reduceEqDiff, Nat.reduceLT, Nat.reduceAdd, Nat.reduceSub, Nat.reduceMul, Nat.reduceLeDiff, reduceCtorEq, Int.reduceNeg, Int.reduceToNat, Int.reduceLT, Int.reduceLE, Int.reduceEq]; rfl)))
    · simp (dsimp := false) only [go_sem, ↓reduceIte, Nat.reduceEqDiff, Nat.reduceLT, Nat.reduceAdd, Nat.reduceSub, Nat.reduceMul, Nat.reduceLeDiff, reduceCtorEq, Int.reduceNeg, Int.reduceToNat, Int.reduceLT, Int.reduceLE, Int.reduceEq, h0, bytes_eq, hbn, w2]
      refine ⟨2, by omega, ?_, by omega⟩
      (refine Ghost.of ?_ (fun _ _ h => by cases h); (repeat' (first | exact all_nil | refine all_cons ?_ ?_)) <;> (first | (simp (dsimp := false) only [go_sem, ↓reduceIte, Nat.reduceEqDiff, Nat.reduceLT, Nat.reduceAdd, Nat.reduceSub, Nat.reduceMul, Nat.reduceLeDiff, reduceCtorEq, Int.reduceNeg, Int.reduceToNat, Int.reduceLT, Int.reduceLE, Int.reduceEq]; done) | (simp (dsimp := false) only [go_sem, ↓reduceIte, Nat.reduceEqDiff, Nat.reduceLT, Nat.reduceAdd, Nat.reduceSub, Nat.reduceMul, Nat.reduceLeDiff, reduceCtorEq, Int.reduceNeg, Int.reduceToNat, Int.reduceLT, Int.reduceLE, Int.reduceEq]; rfl)))
end Go.Proofs.Ytenfgknhongaaaa.Fn
