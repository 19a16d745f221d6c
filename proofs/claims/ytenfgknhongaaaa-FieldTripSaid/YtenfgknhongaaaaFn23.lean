/- The law on fields that are written and read. -/
import Derived.Test.YtenfgknhongaaaaFn22
set_option linter.unusedVariables false
set_option linter.unusedSimpArgs false
namespace Go.Proofs.Ytenfgknhongaaaa.Fn
open Go Hl Sp Ty
set_option maxRecDepth 100000
set_option maxHeartbeats 4000000 in
theorem FieldTrip_pc (front rest : List UInt8) (n m o who : Int) (little : Bool) (hn : 0 ≤ n ∧ n ≤ 4294967295) (hm : 0 ≤ m ∧ m ≤ 65535) (ho : 0 ≤ o ∧ o ≤ 255) (hw : 0 ≤ who ∧ who ≤ 255) :
    PC Try.prog 10 [.lst 1 (front.map byteA), .lst 1 (rest.map byteA), .raw (.int .u32 n), .raw (.int .u16 m), .raw (.int .u8 o), .raw (.int .u8 who), .raw (.bool little)] (.raw (.bool true)) := by
  refine PC.of_ac ?_
  have c1 : IntKind.i64.wrap n = n := wrap_i64 (by omega) (by omega)
  have c2 : IntKind.i64.wrap m = m := wrap_i64 (by omega) (by omega)
  have c3 : IntKind.i64.wrap o = o := wrap_i64 (by omega) (by omega)
  have c4 : IntKind.i64.wrap who = who := wrap_i64 (by omega) (by omega)
  obtain ⟨⟨u1, u2, u3⟩, hu⟩ : ∃ u, userP who = u := ⟨_, rfl⟩
  have hv := userP_val who
  rw [hu] at hv
  have hz := validB_size hv
  simp only at hz hv
  obtain ⟨b1, e1⟩ : ∃ b, front ++ numB n 4 little = b := ⟨_, rfl⟩
  obtain ⟨b2, e2⟩ : ∃ b, b1 ++ numB m 2 little = b := ⟨_, rfl⟩
  obtain ⟨b3, e3⟩ : ∃ b, b2 ++ [u8 o] = b := ⟨_, rfl⟩
  obtain ⟨b4, e4⟩ : ∃ b, b3 ++ prinB u1 u2 u3 = b := ⟨_, rfl⟩
  have l1 : b1.length = front.length + 4 := by rw [← e1, List.length_append, numB_length]
  have l2 : b2.length = b1.length + 2 := by rw [← e2, List.length_append, numB_length]
  have l3 : b3.length = b2.length + 1 := by rw [← e3, List.length_append]; rfl
  have l4 : b4.length = b3.length + (prinB u1 u2 u3).length := by rw [← e4, List.length_append]
  have l5 := prinB_length u1 u2 u3
  have hu8 : ((u8 o).toNat : Int) = o := by rw [u8_toNat]; omega
  obtain ⟨x, hx⟩ : ∃ x, b4 ++ rest = x := ⟨_, rfl⟩
  have lx : x.length = b4.length + rest.length := by rw [← hx, List.length_append]
  have x1 : x = front ++ (numB n 4 little ++ (numB m 2 little ++ (u8 o :: (prinB u1 u2 u3 ++ rest)))) := by rw [← hx, ← e4, ← e3, ← e2, ← e1]; simp
  have x2 : x = b1 ++ (numB m 2 little ++ (u8 o :: (prinB u1 u2 u3 ++ rest))) := by rw [← hx, ← e4, ← e3, ← e2]; simp
  have x3 : x = b2 ++ (u8 o :: (prinB u1 u2 u3 ++ rest)) := by rw [← hx, ← e4, ← e3]; simp
  have x4 : x = b3 ++ (prinB u1 u2 u3 ++ rest) := by rw [← hx, ← e4]; simp
  have r1 := readN_num front (numB m 2 little ++ (u8 o :: (prinB u1 u2 u3 ++ rest))) n 4 little hn.1 (by omega)
  have r2 := readN_num b1 (u8 o :: (prinB u1 u2 u3 ++ rest)) m 2 little hm.1 (by omega)
  have r3 := readN_one b2 (prinB u1 u2 u3 ++ rest) (u8 o)
  have r4 := prinR_prin b3 rest u1 u2 u3 hv
  rw [← x1, show ((front.length : Int) + ((4 : Nat) : Int)) = b1.length by omega] at r1
  rw [← x2, show ((b1.length : Int) + ((2 : Nat) : Int)) = b2.length by omega] at r2
  rw [← x3, hu8, show ((b2.length : Int) + 1) = b3.length by omega] at r3
  rw [← x4, show ((b3.length : Int) + ((prinB u1 u2 u3).length : Nat)) = b4.length by omega] at r4
  have hN : ∀ q : front.length ≤ 200 ∧ rest.length ≤ 200, PC Try.prog 28 [.lst 1 (x.map byteA), .raw (.int .i64 front.length), .raw (.bool little)] (.tup [.raw (.int .i64 n), .raw (.int .i64 b1.length), .raw (.int .i64 0)]) := fun q => by
    have := Number_tot x front.length little (by omega) (by omega) (by omega)
    rw [r1] at this; exact this
  have hS : ∀ q : front.length ≤ 200 ∧ rest.length ≤ 200, PC Try.prog 60 [.lst 1 (x.map byteA), .raw (.int .i64 b1.length), .raw (.bool little)] (.tup [.raw (.int .i64 m), .raw (.int .i64 b2.length), .raw (.int .i64 0)]) := fun q => by
    have := Short_tot x b1.length little (by omega) (by omega) (by omega)
    rw [r2] at this; exact this
  have hO : ∀ q : front.length ≤ 200 ∧ rest.length ≤ 200, PC Try.prog 61 [.lst 1 (x.map byteA), .raw (.int .i64 b2.length)] (.tup [.raw (.int .i64 o), .raw (.int .i64 b3.length), .raw (.int .i64 0)]) := fun q => by
    have := Octet_tot x b2.length (by omega) (by omega) (by omega)
    rw [r3] at this; exact this
  have hP : ∀ q : front.length ≤ 200 ∧ rest.length ≤ 200, PC Try.prog 39 [.lst 1 (x.map byteA), .raw (.int .i64 b3.length)] (.tup [prinA (u1, u2, u3), .raw (.int .i64 b4.length), .raw (.int .i64 0)]) := fun q => by
    have := Principal_pure x b3.length (by omega)
    rw [r4] at this; exact this
  unfold prinA at hP
  refine AC.of_body (M := [62]) Try.func10 rfl (by kernel_rfl) (Nat.le_of_ble_eq_true rfl) ?_; simp only [Try.results10, Try.ntmps10]
  simp (dsimp := false) only [go_sem, ↓reduceIte, Nat.reduceEqDiff, Nat.reduceLT, Nat.reduceAdd, Nat.reduceSub, Nat.reduceMul, Nat.reduceLeDiff, reduceCtorEq, Int.reduceNeg, Int.reduceToNat, Int.reduceLT, Int.reduceLE, Int.reduceEq]
  refine ACs.pure awake5_pure ?_
  by_cases h1 : (front.length : Int) > 200
  · simp (dsimp := false) only [go_sem, ↓reduceIte, Nat.reduceEqDiff, Nat.reduceLT, Nat.reduceAdd, Nat.reduceSub, Nat.reduceMul, Nat.reduceLeDiff, reduceCtorEq, Int.reduceNeg, Int.reduceToNat, Int.reduceLT, Int.reduceLE, Int.reduceEq, h1]
  by_cases h2 : (rest.length : Int) > 200
  · simp (dsimp := false) only [go_sem, ↓reduceIte, Nat.reduceEqDiff, Nat.reduceLT, Nat.reduceAdd, Nat.reduceSub, Nat.reduceMul, Nat.reduceLeDiff, reduceCtorEq, Int.reduceNeg, Int.reduceToNat, Int.reduceLT, Int.reduceLE, Int.reduceEq, h1, h2]
  have q : front.length ≤ 200 ∧ rest.length ≤ 200 := by omega
  simp (dsimp := false) only [go_sem, ↓reduceIte, Nat.reduceEqDiff, Nat.reduceLT, Nat.reduceAdd, Nat.reduceSub, Nat.reduceMul, Nat.reduceLeDiff, reduceCtorEq, Int.reduceNeg, Int.reduceToNat, Int.reduceLT, Int.reduceLE, Int.reduceEq, h1, h2, c4]
  refine ACs.pure (User_pure who hw.1 (by omega)) ?_
  simp (dsimp := false) only [go_sem, ↓reduceIte, Nat.reduceEqDiff, Nat.reduceLT, Nat.reduceAdd, Nat.reduceSub, Nat.reduceMul, Nat.reduceLeDiff, reduceCtorEq, Int.reduceNeg, Int.reduceToNat, Int.reduceLT, Int.reduceLE, Int.reduceEq, hu, prinA, c1]
  intro k hk
  refine ACs.pure (PutNumber_pure front n little (by omega)) ?_
  simp (dsimp := false) only [go_sem, ↓reduceIte, Nat.reduceEqDiff, Nat.reduceLT, Nat.reduceAdd, Nat.reduceSub, Nat.reduceMul, Nat.reduceLeDiff, reduceCtorEq, Int.reduceNeg, Int.reduceToNat, Int.reduceLT, Int.reduceLE, Int.reduceEq, e1, c2]
  refine ACs.pure (PutShort_pure b1 m little (by omega)) ?_
  simp (dsimp := false) only [go_sem, ↓reduceIte, Nat.reduceEqDiff, Nat.reduceLT, Nat.reduceAdd, Nat.reduceSub, Nat.reduceMul, Nat.reduceLeDiff, reduceCtorEq, Int.reduceNeg, Int.reduceToNat, Int.reduceLT, Int.reduceLE, Int.reduceEq, e2, c3]
  refine ACs.pure (PutOctet_pure b2 o (by omega)) ?_
  simp (dsimp := false) only [go_sem, ↓reduceIte, Nat.reduceEqDiff, Nat.reduceLT, Nat.reduceAdd, Nat.reduceSub, Nat.reduceMul, Nat.reduceLeDiff, reduceCtorEq, Int.reduceNeg, Int.reduceToNat, Int.reduceLT, Int.reduceLE, Int.reduceEq, e3]
  refine ACs.pure (PutPrincipal_pure b3 u1 u2 u3 (by omega)) ?_
  simp (dsimp := false) only [go_sem, ↓reduceIte, Nat.reduceEqDiff, Nat.reduceLT, Nat.reduceAdd, Nat.reduceSub, Nat.reduceMul, Nat.reduceLeDiff, reduceCtorEq, Int.reduceNeg, Int.reduceToNat, Int.reduceLT, Int.reduceLE, Int.reduceEq, e4]
  intro k1 hk1
  refine ⟨okA_bytes b4, by omega, by omega, fun k2 q2 hk2 hq2 => ?_⟩
  have hk2 := Own.set_none hk1 hk2
  have mv1 := fun o o' => Own.set_move hk1 k2 o o'
  simp (dsimp := false) only [go_sem, ↓reduceIte, Nat.reduceEqDiff, Nat.reduceLT, Nat.reduceAdd, Nat.reduceSub, Nat.reduceMul, Nat.reduceLeDiff, reduceCtorEq, Int.reduceNeg, Int.reduceToNat, Int.reduceLT, Int.reduceLE, Int.reduceEq, mv1, flat_byte]
  refine ⟨okA_bytes rest, by omega, by omega, fun k3 q3 hk3 hq3 => ?_⟩
  have hk3 := Own.set_none hk2 hk3
  have mv2 := fun o o' => Own.set_move hk2 k3 o o'
  have n3 := none_ne hk3
  have a1 : ∀ (own : Own) o, (own.set k3 o) k = own k := fun own o => Own.set_ne _ _ (Ne.symm n3)
  have a2 : ∀ (own : Own) o, (own.set k o) k3 = own k3 := fun own o => Own.set_ne _ _ n3
  have hxm : b4.map byteA ++ rest.map byteA = x.map byteA := by rw [← hx, List.map_append]
  have hxl : b4.length + rest.length = x.length := lx.symm
  simp (dsimp := false) only [go_sem, ↓reduceIte, Nat.reduceEqDiff, Nat.reduceLT, Nat.reduceAdd, Nat.reduceSub, Nat.reduceMul, Nat.reduceLeDiff, reduceCtorEq, Int.reduceNeg, Int.reduceToNat, Int.reduceLT, Int.reduceLE, Int.reduceEq, mv2, flat_byte, hxm, hxl]
  refine ACs.arg (pre := []) (Weak1.share (Own.set_same _ _ _) (Lies.bytes x) (by simp) (by omega) (by omega)) ?_
  refine ACs.pure (hN q) ?_
  simp (dsimp := false) only [go_sem, ↓reduceIte, Nat.reduceEqDiff, Nat.reduceLT, Nat.reduceAdd, Nat.reduceSub, Nat.reduceMul, Nat.reduceLeDiff, reduceCtorEq, Int.reduceNeg, Int.reduceToNat, Int.reduceLT, Int.reduceLE, Int.reduceEq]
  refine ACs.arg (pre := []) (Weak1.share (l := x.map byteA) (Own.set_same _ _ _) (Lies.bytes x) (by simp; omega) (by omega) (by omega)) ?_
  refine ACs.pure (hS q) ?_
  simp (dsimp := false) only [go_sem, ↓reduceIte, Nat.reduceEqDiff, Nat.reduceLT, Nat.reduceAdd, Nat.reduceSub, Nat.reduceMul, Nat.reduceLeDiff, reduceCtorEq, Int.reduceNeg, Int.reduceToNat, Int.reduceLT, Int.reduceLE, Int.reduceEq]
  refine ACs.arg (pre := []) (Weak1.share (l := x.map byteA) (Own.set_same _ _ _) (Lies.bytes x) (by simp; omega) (by omega) (by omega)) ?_
  refine ACs.pure (hO q) ?_
  simp (dsimp := false) only [go_sem, ↓reduceIte, Nat.reduceEqDiff, Nat.reduceLT, Nat.reduceAdd, Nat.reduceSub, Nat.reduceMul, Nat.reduceLeDiff, reduceCtorEq, Int.reduceNeg, Int.reduceToNat, Int.reduceLT, Int.reduceLE, Int.reduceEq]
  refine ACs.arg (pre := []) (Weak1.share (l := x.map byteA) (Own.set_same _ _ _) (Lies.bytes x) (by simp; omega) (by omega) (by omega)) ?_
  refine ACs.pure (hP q) ?_
  simp (dsimp := false) only [go_sem, ↓reduceIte, Nat.reduceEqDiff, Nat.reduceLT, Nat.reduceAdd, Nat.reduceSub, Nat.reduceMul, Nat.reduceLeDiff, reduceCtorEq, Int.reduceNeg, Int.reduceToNat, Int.reduceLT, Int.reduceLE, Int.reduceEq]
  intro k4 hk4
  have n4 := none_ne hk4
  rw [Own.set_ne _ _ n4] at hk4
  have n5 := none_ne hk4
  have b1' : ∀ (own : Own) o, (own.set k4 o) k = own k := fun own o => Own.set_ne _ _ (Ne.symm n5)
  have b2' : ∀ (own : Own) o, (own.set k o) k4 = own k4 := fun own o => Own.set_ne _ _ n5
  have b3' : ∀ (own : Own) o, (own.set k3 o) k4 = own k4 := fun own o => Own.set_ne _ _ n4
  simp (dsimp := false) only [go_sem, ↓reduceIte, Nat.reduceEqDiff, Nat.reduceLT, Nat.reduceAdd, Nat.reduceSub, Nat.reduceMul, Nat.reduceLeDiff, reduceCtorEq, Int.reduceNeg, Int.reduceToNat, Int.reduceLT, Int.reduceLE, Int.reduceEq, a1, a2, b1', b2', b3', c1, c2, c3]
end Go.Proofs.Ytenfgknhongaaaa.Fn
