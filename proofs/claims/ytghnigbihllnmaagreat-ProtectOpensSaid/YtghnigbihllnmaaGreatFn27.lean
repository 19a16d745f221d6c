/- Boxes. -/
import Derived.Test.YtghnigbihllnmaaGreatHlC
import Derived.Test.YtghnigbihllnmaaGreatSp1
import Derived.Test.YtghnigbihllnmaaGreatTy
import Derived.Test.YtghnigbihllnmaaGreatFn1
import Derived.Test.YtghnigbihllnmaaGreatFn19
import Derived.Test.YtghnigbihllnmaaGreatFn20
import Derived.Test.YtghnigbihllnmaaGreatFn24
import Derived.Test.YtghnigbihllnmaaGreatFn25
set_option linter.unusedVariables false
set_option linter.unusedSimpArgs false
namespace Go.Proofs.YtghnigbihllnmaaGreat.Fn
open Go Hl Sp Ty
set_option maxRecDepth 100000

def kindB (kind : Int) : Bool := decide (kind ≥ 1 ∧ kind ≤ 10)
/-- The bytes of a box. -/
def boxB (kind k : Int) (body : List UInt8) : List UInt8 := [66, u8 kind] ++ numB k 8 false ++ [u8 ((body.length : Int).fdiv (2 ^ 8)), u8 body.length] ++ body
def boxE (kind k : Int) (body : List UInt8) : Int := if kindB kind = false then 104 else if clsZ k = 0 then 10 else if (body.length : Int) > 1000 then 105 else 0
/-- What Make answers. -/
def boxM (kind k : Int) (body : List UInt8) : AV := .tup [.lst 1 ((if boxE kind k body = 0 then boxB kind k body else []).map byteA), .raw (.int .i64 (boxE kind k body))]
theorem Weak1.st {own own' : Own} {cs cs' : List AV} (h : Weak own cs own' cs') : Weak1 own (.st cs) own' (.st cs') := fun w F v hf ho hr => by
  simp only [Rep] at hr ⊢
  obtain ⟨xs, rfl, hx, h1⟩ := hr
  obtain ⟨F', h2, h3⟩ := h w F xs hf ho hx
  exact ⟨F', h2, xs, rfl, h3, h1⟩
theorem isKind_pure (n : Int) : PC Tryz.prog 190 [.raw (.int .i64 n)] (.raw (.bool (kindB n))) := by
  refine PC.of_ac ?_
  refine AC.of_body (M := []) Tryz.func190 rfl (by kernel_rfl) (Nat.le_of_ble_eq_true rfl) ?_; simp only [Tryz.results190, Tryz.ntmps190]
  unfold kindB
  by_cases h : n ≥ 1
  · simp (dsimp := false) only [go_sem, ↓reduceIte, Nat.reduceEqDiff, Nat.reduceLT, Nat.reduceAdd, Nat.reduceSub, Nat.reduceMul, Nat.reduceLeDiff, reduceCtorEq, Int.reduceNeg, Int.reduceToNat, Int.reduceLT, Int.reduceLE, Int.reduceGE, Int.reduceGT, Int.reduceEq, h]
  · simp (dsimp := false) only [go_sem, ↓reduceIte, Nat.reduceEqDiff, Nat.reduceLT, Nat.reduceAdd, Nat.reduceSub, Nat.reduceMul, Nat.reduceLeDiff, reduceCtorEq, Int.reduceNeg, Int.reduceToNat, Int.reduceLT, Int.reduceLE, Int.reduceGE, Int.reduceGT, Int.reduceEq, h]
set_option maxHeartbeats 4000000 in
theorem boxMake_pure (kind k : Int) (body : List UInt8) (hk0 : 0 ≤ k) (hk1 : k < 18446744073709551616) (hb : body.length ≤ 100000) :
    PC Tryz.prog 181 [.raw (.int .i64 kind), .raw (.int .u64 k), .lst 1 (body.map byteA)] (boxM kind k body) := by
  refine PC.post ?_
  have hbb : ∀ x, AV.raw (.int .u8 ((u8 x).toNat : Int)) = byteA (u8 x) := fun _ => rfl
  have h66 : AV.raw (.int .u8 66) = byteA 66 := rfl
  have hkl := numB_length k 8 false
  have hKB := keyBytes_pure k hk0 hk1
  obtain ⟨kb, hkb⟩ : ∃ x, numB k 8 false = x := ⟨_, rfl⟩
  rw [hkb] at hKB hkl
  refine AC.of_body (M := [23]) Tryz.func181 rfl (by kernel_rfl) (Nat.le_of_ble_eq_true rfl) ?_; simp only [Tryz.results181, Tryz.ntmps181]
  simp (dsimp := false) only [go_sem, ↓reduceIte, Nat.reduceEqDiff, Nat.reduceLT, Nat.reduceAdd, Nat.reduceSub, Nat.reduceMul, Nat.reduceLeDiff, reduceCtorEq, Int.reduceNeg, Int.reduceToNat, Int.reduceLT, Int.reduceLE, Int.reduceGE, Int.reduceGT, Int.reduceEq]
  refine ACs.pure (isKind_pure kind) ?_
  rcases Bool.eq_false_or_eq_true (kindB kind) with h1 | h1
  · simp (dsimp := false) only [go_sem, ↓reduceIte, Nat.reduceEqDiff, Nat.reduceLT, Nat.reduceAdd, Nat.reduceSub, Nat.reduceMul, Nat.reduceLeDiff, reduceCtorEq, Int.reduceNeg, Int.reduceToNat, Int.reduceLT, Int.reduceLE, Int.reduceGE, Int.reduceGT, Int.reduceEq, h1]
    refine ACs.pure (keyValid_pure k hk0 hk1) ?_
    by_cases h2 : clsZ k = 0
    · simp (dsimp := false) only [go_sem, ↓reduceIte, Nat.reduceEqDiff, Nat.reduceLT, Nat.reduceAdd, Nat.reduceSub, Nat.reduceMul, Nat.reduceLeDiff, reduceCtorEq, Int.reduceNeg, Int.reduceToNat, Int.reduceLT, Int.reduceLE, Int.reduceGE, Int.reduceGT, Int.reduceEq, h2]
      have hE : boxE kind k body = 10 := by simp [boxE, h1, h2]
      rw [boxM, hE, if_neg (by decide)]
      exact ⟨noOwn, Weak1.nil2⟩
    by_cases h3 : (body.length : Int) > 1000
    · simp (dsimp := false) only [go_sem, ↓reduceIte, Nat.reduceEqDiff, Nat.reduceLT, Nat.reduceAdd, Nat.reduceSub, Nat.reduceMul, Nat.reduceLeDiff, reduceCtorEq, Int.reduceNeg, Int.reduceToNat, Int.reduceLT, Int.reduceLE, Int.reduceGE, Int.reduceGT, Int.reduceEq, h2, h3]
      have hE : boxE kind k body = 105 := by simp [boxE, h1, h2]; omega
      rw [boxM, hE, if_neg (by decide)]
      exact ⟨noOwn, Weak1.nil2⟩
    have hE : boxE kind k body = 0 := by simp [boxE, h1, h2]; omega
    simp (dsimp := false) only [go_sem, ↓reduceIte, Nat.reduceEqDiff, Nat.reduceLT, Nat.reduceAdd, Nat.reduceSub, Nat.reduceMul, Nat.reduceLeDiff, reduceCtorEq, Int.reduceNeg, Int.reduceToNat, Int.reduceLT, Int.reduceLE, Int.reduceGE, Int.reduceGT, Int.reduceEq, h2, h3, wrap_u8]
    intro k1 hk1'
    refine ACs.pure hKB ?_
    simp (dsimp := false) only [go_sem, ↓reduceIte, Nat.reduceEqDiff, Nat.reduceLT, Nat.reduceAdd, Nat.reduceSub, Nat.reduceMul, Nat.reduceLeDiff, reduceCtorEq, Int.reduceNeg, Int.reduceToNat, Int.reduceLT, Int.reduceLE, Int.reduceGE, Int.reduceGT, Int.reduceEq, flat_byte, hkl]
    refine ⟨okA_bytes kb, fun k2 c2 hk2 hc2 k3 c3 hk3 hc3 => ?_⟩
    have hk2 := Own.set_none hk1' hk2
    have mv1 := fun o o' => Own.set_move hk1' k2 o o'
    rw [mv1] at hk3
    have hk3 := Own.set_none hk2 hk3
    have mv2 := fun o o' => Own.set_move hk2 k3 o o'
    refine ⟨okA_bytes body, by simp [hkl], by omega, by omega, fun k4 c4 hk4 hc4 => ?_⟩
    rw [mv1, mv2] at hk4
    have mv3 := fun o o' => Own.set_move hk3 k4 o o'
    simp only [mv1, mv2, mv3]
    rw [boxM, hE, if_pos rfl]
    refine ⟨_, Weak1.tup (Weak.one (pre := []) (rowW _ k4 c4 c4 _ (boxB kind k body) [] ?_ ?_ hc4 (by omega)))⟩
    · rw [List.append_nil]
      refine (Own.set_same _ _ _).trans ?_
      have : (8 : Nat) = min 8 64 := by decide
      simp only [boxB, hkb, List.map_append, List.map_cons, List.map_nil, h66, hbb, wrap_u8, List.cons_append, List.nil_append, List.append_assoc]
      rfl
    · simp only [boxB, hkb, List.length_append, hkl, List.length_cons, List.length_nil]
  · simp (dsimp := false) only [go_sem, ↓reduceIte, Nat.reduceEqDiff, Nat.reduceLT, Nat.reduceAdd, Nat.reduceSub, Nat.reduceMul, Nat.reduceLeDiff, reduceCtorEq, Int.reduceNeg, Int.reduceToNat, Int.reduceLT, Int.reduceLE, Int.reduceGE, Int.reduceGT, Int.reduceEq, h1]
    have hE : boxE kind k body = 104 := by simp [boxE, h1]
    rw [boxM, hE, if_neg (by decide)]
    exact ⟨noOwn, Weak1.nil2⟩
set_option maxHeartbeats 4000000 in
theorem rboxMake_pure (kind k : Int) (body : List UInt8) (hk0 : 0 ≤ k) (hk1 : k < 18446744073709551616) (hb : body.length ≤ 100000) :
    PC Tryz.prog 163 [.raw (.int .i64 kind), .raw (.int .u64 k), .lst 1 (body.map byteA)] (boxM kind k body) := by
  refine PC.post ?_
  have hbb : ∀ x, AV.raw (.int .u8 ((u8 x).toNat : Int)) = byteA (u8 x) := fun _ => rfl
  have h66 : AV.raw (.int .u8 66) = byteA 66 := rfl
  have hkl := numB_length k 8 false
  have hKB := rkeyBytes_pure k hk0 hk1
  obtain ⟨kb, hkb⟩ : ∃ x, numB k 8 false = x := ⟨_, rfl⟩
  rw [hkb] at hKB hkl
  refine AC.of_body (M := [23]) Tryz.func163 rfl (by kernel_rfl) (Nat.le_of_ble_eq_true rfl) ?_; simp only [Tryz.results163, Tryz.ntmps163]
  by_cases g1 : kind < 1
  · simp (dsimp := false) only [go_sem, ↓reduceIte, Nat.reduceEqDiff, Nat.reduceLT, Nat.reduceAdd, Nat.reduceSub, Nat.reduceMul, Nat.reduceLeDiff, reduceCtorEq, Int.reduceNeg, Int.reduceToNat, Int.reduceLT, Int.reduceLE, Int.reduceGE, Int.reduceGT, Int.reduceEq, g1]
    have hE : boxE kind k body = 104 := by simp [boxE, kindB]; omega
    rw [boxM, hE, if_neg (by decide)]
    exact ⟨noOwn, Weak1.nil2⟩
  by_cases g2 : kind > 10
  · simp (dsimp := false) only [go_sem, ↓reduceIte, Nat.reduceEqDiff, Nat.reduceLT, Nat.reduceAdd, Nat.reduceSub, Nat.reduceMul, Nat.reduceLeDiff, reduceCtorEq, Int.reduceNeg, Int.reduceToNat, Int.reduceLT, Int.reduceLE, Int.reduceGE, Int.reduceGT, Int.reduceEq, g1, g2]
    have hE : boxE kind k body = 104 := by simp [boxE, kindB]; omega
    rw [boxM, hE, if_neg (by decide)]
    exact ⟨noOwn, Weak1.nil2⟩
  · have h1 : kindB kind = true := by unfold kindB; simp; omega
    simp (dsimp := false) only [go_sem, ↓reduceIte, Nat.reduceEqDiff, Nat.reduceLT, Nat.reduceAdd, Nat.reduceSub, Nat.reduceMul, Nat.reduceLeDiff, reduceCtorEq, Int.reduceNeg, Int.reduceToNat, Int.reduceLT, Int.reduceLE, Int.reduceGE, Int.reduceGT, Int.reduceEq, g1, g2]
    refine ACs.pure (rkeyValid_pure k hk0 hk1) ?_
    by_cases h2 : clsZ k = 0
    · simp (dsimp := false) only [go_sem, ↓reduceIte, Nat.reduceEqDiff, Nat.reduceLT, Nat.reduceAdd, Nat.reduceSub, Nat.reduceMul, Nat.reduceLeDiff, reduceCtorEq, Int.reduceNeg, Int.reduceToNat, Int.reduceLT, Int.reduceLE, Int.reduceGE, Int.reduceGT, Int.reduceEq, h2]
      have hE : boxE kind k body = 10 := by simp [boxE, h1, h2]
      rw [boxM, hE, if_neg (by decide)]
      exact ⟨noOwn, Weak1.nil2⟩
    by_cases h3 : (body.length : Int) > 1000
    · simp (dsimp := false) only [go_sem, ↓reduceIte, Nat.reduceEqDiff, Nat.reduceLT, Nat.reduceAdd, Nat.reduceSub, Nat.reduceMul, Nat.reduceLeDiff, reduceCtorEq, Int.reduceNeg, Int.reduceToNat, Int.reduceLT, Int.reduceLE, Int.reduceGE, Int.reduceGT, Int.reduceEq, h2, h3]
      have hE : boxE kind k body = 105 := by simp [boxE, h1, h2]; omega
      rw [boxM, hE, if_neg (by decide)]
      exact ⟨noOwn, Weak1.nil2⟩
    have hE : boxE kind k body = 0 := by simp [boxE, h1, h2]; omega
    simp (dsimp := false) only [go_sem, ↓reduceIte, Nat.reduceEqDiff, Nat.reduceLT, Nat.reduceAdd, Nat.reduceSub, Nat.reduceMul, Nat.reduceLeDiff, reduceCtorEq, Int.reduceNeg, Int.reduceToNat, Int.reduceLT, Int.reduceLE, Int.reduceGE, Int.reduceGT, Int.reduceEq, h2, h3, wrap_u8]
    intro k1 hk1'
    refine ACs.pure hKB ?_
    simp (dsimp := false) only [go_sem, ↓reduceIte, Nat.reduceEqDiff, Nat.reduceLT, Nat.reduceAdd, Nat.reduceSub, Nat.reduceMul, Nat.reduceLeDiff, reduceCtorEq, Int.reduceNeg, Int.reduceToNat, Int.reduceLT, Int.reduceLE, Int.reduceGE, Int.reduceGT, Int.reduceEq, flat_byte, hkl]
    refine ⟨okA_bytes kb, fun k2 c2 hk2 hc2 k3 c3 hk3 hc3 => ?_⟩
    have hk2 := Own.set_none hk1' hk2
    have mv1 := fun o o' => Own.set_move hk1' k2 o o'
    rw [mv1] at hk3
    have hk3 := Own.set_none hk2 hk3
    have mv2 := fun o o' => Own.set_move hk2 k3 o o'
    refine ⟨okA_bytes body, by simp [hkl], by omega, by omega, fun k4 c4 hk4 hc4 => ?_⟩
    rw [mv1, mv2] at hk4
    have mv3 := fun o o' => Own.set_move hk3 k4 o o'
    simp only [mv1, mv2, mv3]
    rw [boxM, hE, if_pos rfl]
    refine ⟨_, Weak1.tup (Weak.one (pre := []) (rowW _ k4 c4 c4 _ (boxB kind k body) [] ?_ ?_ hc4 (by omega)))⟩
    · rw [List.append_nil]
      refine (Own.set_same _ _ _).trans ?_
      have : (8 : Nat) = min 8 64 := by decide
      simp only [boxB, hkb, List.map_append, List.map_cons, List.map_nil, h66, hbb, wrap_u8, List.cons_append, List.nil_append, List.append_assoc]
      rfl
    · simp only [boxB, hkb, List.length_append, hkl, List.length_cons, List.length_nil]

/-- What Read of a box reads: kind, key, body, length, error. -/
def boxR (b : List UInt8) : Int × Int × List UInt8 × Int × Int :=
  let c1 : Int := ((b.getD 1 0).toNat : Int)
  let n : Nat := 256 * (b.getD 10 0).toNat + (b.getD 11 0).toNat
  let q := keyR ((b.drop 2).take 8)
  if (b.length : Int) < 12 then (0, 0, [], 0, 101)
  else if ((b.getD 0 0).toNat : Int) ≠ 66 ∨ kindB c1 = false ∨ q.2 = false ∨ (n : Int) > 1000 then (0, 0, [], 0, 100)
  else if (b.length : Int) < 12 + n then (0, 0, [], 0, 101)
  else (c1, q.1, (b.drop 12).take n, 12 + n, 0)
def boxA (r : Int × Int × List UInt8 × Int × Int) : AV :=
  if r.2.2.2.2 = 0 then .tup [.st [.raw (.int .i64 r.1), .raw (.int .u64 r.2.1), .lst 1 (r.2.2.1.map byteA)], .raw (.int .i64 r.2.2.2.1), .raw (.int .i64 0)]
  else .tup [.st [.raw (.int .i64 0), .raw (.int .u64 0), .raw (.slice none 0 0)], .raw (.int .i64 0), .raw (.int .i64 r.2.2.2.2)]
theorem Clone_pure (bs : List UInt8) (hn : bs.length ≤ 140737488355328) : PC Tryz.prog 176 [.lst 1 (bs.map byteA)] (.lst 1 (bs.map byteA)) :=
  PC.of_row (by omega) fun own K h => Clone_own bs hn own K h
set_option maxHeartbeats 4000000 in
theorem boxRead_pure (b : List UInt8) (hn : b.length ≤ 1000000) : PC Tryz.prog 183 [.lst 1 (b.map byteA)] (boxA (boxR b)) := by
  refine PC.of_ac ?_
  by_cases h1 : (b.length : Int) < 12
  · refine AC.of_body (M := []) Tryz.func183 rfl (by kernel_rfl) (Nat.le_of_ble_eq_true rfl) ?_; simp only [Tryz.results183, Tryz.ntmps183]
    simp (dsimp := false) only [go_sem, ↓reduceIte, Nat.reduceEqDiff, Nat.reduceLT, Nat.reduceAdd, Nat.reduceSub, Nat.reduceMul, Nat.reduceLeDiff, reduceCtorEq, Int.reduceNeg, Int.reduceToNat, Int.reduceLT, Int.reduceLE, Int.reduceGE, Int.reduceGT, Int.reduceEq, h1]
    intro k1 _
    have hr : boxR b = (0, 0, [], 0, 101) := by unfold boxR; simp only; rw [if_pos h1]
    rw [hr, boxA, if_neg (by decide)]
    (try trivial)
  obtain ⟨c0, e0⟩ : ∃ c, b.getD 0 0 = c := ⟨_, rfl⟩
  obtain ⟨c1, e1⟩ : ∃ c, b.getD 1 0 = c := ⟨_, rfl⟩
  obtain ⟨c10, e10⟩ : ∃ c, b.getD 10 0 = c := ⟨_, rfl⟩
  obtain ⟨c11, e11⟩ : ∃ c, b.getD 11 0 = c := ⟨_, rfl⟩
  have g0 : (b.map byteA).getD 0 .any = .raw (.int .u8 (c0.toNat)) := by rw [getD_byte (by omega), e0]; rfl
  have g1 : (b.map byteA).getD 1 .any = .raw (.int .u8 (c1.toNat)) := by rw [getD_byte (by omega), e1]; rfl
  have g10 : (b.map byteA).getD 10 .any = .raw (.int .u8 (c10.toNat)) := by rw [getD_byte (by omega), e10]; rfl
  have g11 : (b.map byteA).getD 11 .any = .raw (.int .u8 (c11.toNat)) := by rw [getD_byte (by omega), e11]; rfl
  have t1 := c1.toNat_lt
  have t10 := c10.toNat_lt
  have t11 := c11.toNat_lt
  have w1 : IntKind.i64.wrap (c1.toNat : Int) = c1.toNat := wrap_i64 (by omega) (by omega)
  have w10 : IntKind.i64.wrap (c10.toNat : Int) = c10.toNat := wrap_i64 (by omega) (by omega)
  have w11 : IntKind.i64.wrap (c11.toNat : Int) = c11.toNat := wrap_i64 (by omega) (by omega)
  have ho := or_i64 c10.toNat c11.toNat t11 (by omega)
  have hq := keyRead_pure ((b.drop 2).take 8) (by simp; omega)
  obtain ⟨q, eq⟩ : ∃ q, keyR ((b.drop 2).take 8) = q := ⟨_, rfl⟩
  rw [eq] at hq
  obtain ⟨n, en⟩ : ∃ n, 256 * c10.toNat + c11.toNat = n := ⟨_, rfl⟩
  rw [en] at ho
  have hr : boxR b = if (c0.toNat : Int) ≠ 66 ∨ kindB c1.toNat = false ∨ q.2 = false ∨ (n : Int) > 1000 then (0, 0, [], 0, 100) else if (b.length : Int) < 12 + n then (0, 0, [], 0, 101) else ((c1.toNat : Int), q.1, (b.drop 12).take n, 12 + (n : Int), 0) := by
    unfold boxR
    simp only [e0, e1, e10, e11, eq, en]
    rw [if_neg h1]
  have c1' : ((b.length : Int) < 12) = False := by simp; omega
  have w12 : IntKind.i64.wrap (12 + (n : Int)) = 12 + n := wrap_i64 (by omega) (by omega)
  refine AC.of_body (M := []) Tryz.func183 rfl (by kernel_rfl) (Nat.le_of_ble_eq_true rfl) ?_; simp only [Tryz.results183, Tryz.ntmps183]
  simp (dsimp := false) only [go_sem, ↓reduceIte, Nat.reduceEqDiff, Nat.reduceLT, Nat.reduceAdd, Nat.reduceSub, Nat.reduceMul, Nat.reduceLeDiff, reduceCtorEq, Int.reduceNeg, Int.reduceToNat, Int.reduceLT, Int.reduceLE, Int.reduceGE, Int.reduceGT, Int.reduceEq, h1, g0, g1, g10, g11, w1]
  intro k hk
  refine ⟨by omega, fun k1 hk1 => ⟨by omega, ?_⟩⟩
  have n1 := none_ne hk1
  have a1 : ∀ (own : Own) o, (own.set k1 o) k = own k := fun own o => Own.set_ne _ _ (Ne.symm n1)
  have a2 : ∀ (own : Own) o, (own.set k o) k1 = own k1 := fun own o => Own.set_ne _ _ n1
  refine ACs.pure hq ?_
  simp (dsimp := false) only [go_sem, ↓reduceIte, Nat.reduceEqDiff, Nat.reduceLT, Nat.reduceAdd, Nat.reduceSub, Nat.reduceMul, Nat.reduceLeDiff, reduceCtorEq, Int.reduceNeg, Int.reduceToNat, Int.reduceLT, Int.reduceLE, Int.reduceGE, Int.reduceGT, Int.reduceEq]
  refine AW.draw (M := []) [.v, .v, .v, .v, .v, .v, .v, .v, .v, .v, .v] mixed (by kernel_rfl) ?_
  by_cases h2 : (c0.toNat : Int) = 66
  · simp (dsimp := false) only [go_sem, ↓reduceIte, Nat.reduceEqDiff, Nat.reduceLT, Nat.reduceAdd, Nat.reduceSub, Nat.reduceMul, Nat.reduceLeDiff, reduceCtorEq, Int.reduceNeg, Int.reduceToNat, Int.reduceLT, Int.reduceLE, Int.reduceGE, Int.reduceGT, Int.reduceEq, g0, g10, g11, w10, w11, ho, h2, a1, a2]
    refine ⟨by omega, by omega, by omega, ?_⟩
    refine ACs.pure (isKind_pure _) ?_
    rcases Bool.eq_false_or_eq_true (kindB c1.toNat) with h3 | h3
    · rcases Bool.eq_false_or_eq_true q.2 with h4 | h4
      · by_cases h5 : (n : Int) > 1000
        · simp (dsimp := false) only [go_sem, ↓reduceIte, Nat.reduceEqDiff, Nat.reduceLT, Nat.reduceAdd, Nat.reduceSub, Nat.reduceMul, Nat.reduceLeDiff, reduceCtorEq, Int.reduceNeg, Int.reduceToNat, Int.reduceLT, Int.reduceLE, Int.reduceGE, Int.reduceGT, Int.reduceEq, h3, h4, h5, a1, a2]
          rw [hr, if_pos (.inr (.inr (.inr h5))), boxA, if_neg (by decide)]
          (try trivial)
        by_cases h6 : (b.length : Int) < 12 + n
        · simp (dsimp := false) only [go_sem, ↓reduceIte, Nat.reduceEqDiff, Nat.reduceLT, Nat.reduceAdd, Nat.reduceSub, Nat.reduceMul, Nat.reduceLeDiff, reduceCtorEq, Int.reduceNeg, Int.reduceToNat, Int.reduceLT, Int.reduceLE, Int.reduceGE, Int.reduceGT, Int.reduceEq, h3, h4, h5, h6, w12, a1, a2]
          rw [hr, if_neg (by simp [h2, h3, h4]; omega), if_pos h6, boxA, if_neg (by decide)]
          (try trivial)
        · have hnn : (12 + (n : Int)).toNat - 12 = n := by omega
          simp (dsimp := false) only [go_sem, ↓reduceIte, Nat.reduceEqDiff, Nat.reduceLT, Nat.reduceAdd, Nat.reduceSub, Nat.reduceMul, Nat.reduceLeDiff, reduceCtorEq, Int.reduceNeg, Int.reduceToNat, Int.reduceLT, Int.reduceLE, Int.reduceGE, Int.reduceGT, Int.reduceEq, h3, h4, h5, h6, w12, hnn, a1, a2]
          refine ⟨by omega, ?_⟩
          refine ACs.pure (Clone_pure ((b.drop 12).take n) (by simp; omega)) ?_
          simp (dsimp := false) only [go_sem, ↓reduceIte, Nat.reduceEqDiff, Nat.reduceLT, Nat.reduceAdd, Nat.reduceSub, Nat.reduceMul, Nat.reduceLeDiff, reduceCtorEq, Int.reduceNeg, Int.reduceToNat, Int.reduceLT, Int.reduceLE, Int.reduceGE, Int.reduceGT, Int.reduceEq, w12, a1, a2]
          rw [hr, if_neg (by simp [h2, h3, h4]; omega), if_neg h6, boxA, if_pos rfl]
          (try trivial)
      · simp (dsimp := false) only [go_sem, ↓reduceIte, Nat.reduceEqDiff, Nat.reduceLT, Nat.reduceAdd, Nat.reduceSub, Nat.reduceMul, Nat.reduceLeDiff, reduceCtorEq, Int.reduceNeg, Int.reduceToNat, Int.reduceLT, Int.reduceLE, Int.reduceGE, Int.reduceGT, Int.reduceEq, h3, h4, a1, a2]
        rw [hr, if_pos (.inr (.inr (.inl h4))), boxA, if_neg (by decide)]
        (try trivial)
    · simp (dsimp := false) only [go_sem, ↓reduceIte, Nat.reduceEqDiff, Nat.reduceLT, Nat.reduceAdd, Nat.reduceSub, Nat.reduceMul, Nat.reduceLeDiff, reduceCtorEq, Int.reduceNeg, Int.reduceToNat, Int.reduceLT, Int.reduceLE, Int.reduceGE, Int.reduceGT, Int.reduceEq, h3, a1, a2]
      rw [hr, if_pos (.inr (.inl h3)), boxA, if_neg (by decide)]
      (try trivial)
  · simp (dsimp := false) only [go_sem, ↓reduceIte, Nat.reduceEqDiff, Nat.reduceLT, Nat.reduceAdd, Nat.reduceSub, Nat.reduceMul, Nat.reduceLeDiff, reduceCtorEq, Int.reduceNeg, Int.reduceToNat, Int.reduceLT, Int.reduceLE, Int.reduceGE, Int.reduceGT, Int.reduceEq, g0, g10, g11, w10, w11, ho, h2, a1, a2]
    refine ⟨by omega, by omega, by omega, ?_⟩
    rw [hr, if_pos (.inl h2), boxA, if_neg (by decide)]
    (try trivial)
set_option maxHeartbeats 4000000 in
theorem rboxRead_pure (b : List UInt8) (hn : b.length ≤ 1000000) : PC Tryz.prog 184 [.lst 1 (b.map byteA)] (boxA (boxR b)) := by
  refine PC.post ?_
  by_cases h1 : (b.length : Int) < 12
  · refine AC.of_body (M := []) Tryz.func184 rfl (by kernel_rfl) (Nat.le_of_ble_eq_true rfl) ?_; simp only [Tryz.results184, Tryz.ntmps184]
    simp (dsimp := false) only [go_sem, ↓reduceIte, Nat.reduceEqDiff, Nat.reduceLT, Nat.reduceAdd, Nat.reduceSub, Nat.reduceMul, Nat.reduceLeDiff, reduceCtorEq, Int.reduceNeg, Int.reduceToNat, Int.reduceLT, Int.reduceLE, Int.reduceGE, Int.reduceGT, Int.reduceEq, h1]
    intro k1 _
    have hr : boxR b = (0, 0, [], 0, 101) := by unfold boxR; simp only; rw [if_pos h1]
    rw [hr, boxA, if_neg (by decide)]
    exact ⟨_, Weak1.refl _ _⟩
  obtain ⟨c0, e0⟩ : ∃ c, b.getD 0 0 = c := ⟨_, rfl⟩
  obtain ⟨c1, e1⟩ : ∃ c, b.getD 1 0 = c := ⟨_, rfl⟩
  obtain ⟨c10, e10⟩ : ∃ c, b.getD 10 0 = c := ⟨_, rfl⟩
  obtain ⟨c11, e11⟩ : ∃ c, b.getD 11 0 = c := ⟨_, rfl⟩
  have g0 : (b.map byteA).getD 0 .any = .raw (.int .u8 (c0.toNat)) := by rw [getD_byte (by omega), e0]; rfl
  have g1 : (b.map byteA).getD 1 .any = .raw (.int .u8 (c1.toNat)) := by rw [getD_byte (by omega), e1]; rfl
  have g10 : (b.map byteA).getD 10 .any = .raw (.int .u8 (c10.toNat)) := by rw [getD_byte (by omega), e10]; rfl
  have g11 : (b.map byteA).getD 11 .any = .raw (.int .u8 (c11.toNat)) := by rw [getD_byte (by omega), e11]; rfl
  have t1 := c1.toNat_lt
  have t10 := c10.toNat_lt
  have t11 := c11.toNat_lt
  have w1 : IntKind.i64.wrap (c1.toNat : Int) = c1.toNat := wrap_i64 (by omega) (by omega)
  have w10 : IntKind.i64.wrap (c10.toNat : Int) = c10.toNat := wrap_i64 (by omega) (by omega)
  have w11 : IntKind.i64.wrap (c11.toNat : Int) = c11.toNat := wrap_i64 (by omega) (by omega)
  have ho := or_i64 c10.toNat c11.toNat t11 (by omega)
  have hq := rkeyRead_pure ((b.drop 2).take 8) (by simp; omega)
  obtain ⟨q, eq⟩ : ∃ q, keyR ((b.drop 2).take 8) = q := ⟨_, rfl⟩
  rw [eq] at hq
  obtain ⟨n, en⟩ : ∃ n, 256 * c10.toNat + c11.toNat = n := ⟨_, rfl⟩
  rw [en] at ho
  have hr : boxR b = if (c0.toNat : Int) ≠ 66 ∨ kindB c1.toNat = false ∨ q.2 = false ∨ (n : Int) > 1000 then (0, 0, [], 0, 100) else if (b.length : Int) < 12 + n then (0, 0, [], 0, 101) else ((c1.toNat : Int), q.1, (b.drop 12).take n, 12 + (n : Int), 0) := by
    unfold boxR
    simp only [e0, e1, e10, e11, eq, en]
    rw [if_neg h1]
  have c1' : ((b.length : Int) < 12) = False := by simp; omega
  have w12 : IntKind.i64.wrap (12 + (n : Int)) = 12 + n := wrap_i64 (by omega) (by omega)
  have hcs : ((b.drop 12).take n).length = min n (b.length - 12) := by simp
  refine AC.of_body (M := [66]) Tryz.func184 rfl (by kernel_rfl) (Nat.le_of_ble_eq_true rfl) ?_; simp only [Tryz.results184, Tryz.ntmps184]
  simp (dsimp := false) only [go_sem, ↓reduceIte, Nat.reduceEqDiff, Nat.reduceLT, Nat.reduceAdd, Nat.reduceSub, Nat.reduceMul, Nat.reduceLeDiff, reduceCtorEq, Int.reduceNeg, Int.reduceToNat, Int.reduceLT, Int.reduceLE, Int.reduceGE, Int.reduceGT, Int.reduceEq, h1, g0, g1, g10, g11, w1]
  intro k hk
  refine ⟨by omega, ?_⟩
  refine ACs.pure hq ?_
  simp (dsimp := false) only [go_sem, ↓reduceIte, Nat.reduceEqDiff, Nat.reduceLT, Nat.reduceAdd, Nat.reduceSub, Nat.reduceMul, Nat.reduceLeDiff, reduceCtorEq, Int.reduceNeg, Int.reduceToNat, Int.reduceLT, Int.reduceLE, Int.reduceGE, Int.reduceGT, Int.reduceEq]
  refine AW.draw (M := []) [.v, .v, .v, .v, .v, .v, .v, .v, .v, .v, .v] mixed (by kernel_rfl) ?_
  by_cases h2 : (c0.toNat : Int) = 66
  · by_cases h3 : (c1.toNat : Int) < 1
    · simp (dsimp := false) only [go_sem, ↓reduceIte, Nat.reduceEqDiff, Nat.reduceLT, Nat.reduceAdd, Nat.reduceSub, Nat.reduceMul, Nat.reduceLeDiff, reduceCtorEq, Int.reduceNeg, Int.reduceToNat, Int.reduceLT, Int.reduceLE, Int.reduceGE, Int.reduceGT, Int.reduceEq, g0, g1, g10, g11, w1, w10, w11, ho, h2, h3]
      refine ⟨by omega, by omega, by omega, by omega, ?_⟩
      rw [hr, if_pos (.inr (.inl (by unfold kindB; simp; omega))), boxA, if_neg (by decide)]
      exact ⟨_, Weak1.refl _ _⟩
    by_cases h3' : (c1.toNat : Int) > 10
    · simp (dsimp := false) only [go_sem, ↓reduceIte, Nat.reduceEqDiff, Nat.reduceLT, Nat.reduceAdd, Nat.reduceSub, Nat.reduceMul, Nat.reduceLeDiff, reduceCtorEq, Int.reduceNeg, Int.reduceToNat, Int.reduceLT, Int.reduceLE, Int.reduceGE, Int.reduceGT, Int.reduceEq, g0, g1, g10, g11, w1, w10, w11, ho, h2, h3, h3']
      refine ⟨by omega, by omega, by omega, by omega, by omega, ?_⟩
      rw [hr, if_pos (.inr (.inl (by unfold kindB; simp; omega))), boxA, if_neg (by decide)]
      exact ⟨_, Weak1.refl _ _⟩
    have hkd : kindB c1.toNat = true := by unfold kindB; simp; omega
    rcases Bool.eq_false_or_eq_true q.2 with h4 | h4
    · by_cases h5 : (n : Int) > 1000
      · simp (dsimp := false) only [go_sem, ↓reduceIte, Nat.reduceEqDiff, Nat.reduceLT, Nat.reduceAdd, Nat.reduceSub, Nat.reduceMul, Nat.reduceLeDiff, reduceCtorEq, Int.reduceNeg, Int.reduceToNat, Int.reduceLT, Int.reduceLE, Int.reduceGE, Int.reduceGT, Int.reduceEq, g0, g1, g10, g11, w1, w10, w11, ho, h2, h3, h3', h4, h5]
        refine ⟨by omega, by omega, by omega, by omega, by omega, ?_⟩
        rw [hr, if_pos (.inr (.inr (.inr h5))), boxA, if_neg (by decide)]
        exact ⟨_, Weak1.refl _ _⟩
      by_cases h6 : (b.length : Int) < 12 + n
      · simp (dsimp := false) only [go_sem, ↓reduceIte, Nat.reduceEqDiff, Nat.reduceLT, Nat.reduceAdd, Nat.reduceSub, Nat.reduceMul, Nat.reduceLeDiff, reduceCtorEq, Int.reduceNeg, Int.reduceToNat, Int.reduceLT, Int.reduceLE, Int.reduceGE, Int.reduceGT, Int.reduceEq, g0, g1, g10, g11, w1, w10, w11, ho, h2, h3, h3', h4, h5, h6, w12]
        refine ⟨by omega, by omega, by omega, by omega, by omega, ?_⟩
        rw [hr, if_neg (by simp [h2, hkd, h4]; omega), if_pos h6, boxA, if_neg (by decide)]
        exact ⟨_, Weak1.refl _ _⟩
      · have hnn : (12 + (n : Int)).toNat - 12 = n := by omega
        simp (dsimp := false) only [go_sem, ↓reduceIte, Nat.reduceEqDiff, Nat.reduceLT, Nat.reduceAdd, Nat.reduceSub, Nat.reduceMul, Nat.reduceLeDiff, reduceCtorEq, Int.reduceNeg, Int.reduceToNat, Int.reduceLT, Int.reduceLE, Int.reduceGE, Int.reduceGT, Int.reduceEq, g0, g1, g10, g11, w1, w10, w11, ho, h2, h3, h3', h4, h5, h6, w12, hnn]
        refine ⟨by omega, by omega, by omega, by omega, by omega, ?_⟩
        have n1 : ∀ k1 : Nat, k1 ≠ k → (∀ (own : Own) o, (own.set k1 o) k = own k) ∧ (∀ (own : Own) o, (own.set k o) k1 = own k1) := fun k1 h => ⟨fun own o => Own.set_ne _ _ (Ne.symm h), fun own o => Own.set_ne _ _ h⟩
        refine AW.draw (M := [66]) [.v, .v, .v, .v, .v, .e, .v, .v, .v, .v, .e, .v, .v, .v, .e, .v, .v] mixed (by kernel_rfl) ?_
        simp (dsimp := false) only [go_sem, ↓reduceIte, Nat.reduceEqDiff, Nat.reduceLT, Nat.reduceAdd, Nat.reduceSub, Nat.reduceMul, Nat.reduceLeDiff, reduceCtorEq, Int.reduceNeg, Int.reduceToNat, Int.reduceLT, Int.reduceLE, Int.reduceGE, Int.reduceGT, Int.reduceEq, g1, w1, w12, hnn, flat_byte]
        refine ⟨by omega, fun k1 hk1 => ?_⟩
        refine ⟨by omega, okA_bytes _, by omega, by omega, fun k2 c2 hk2 hc2 => ?_⟩
        have mv := fun o o' => Own.set_move hk1 k2 o o'
        have hk2 := Own.set_none hk1 hk2
        have a := n1 k2 (none_ne hk2)
        simp (dsimp := false) only [go_sem, ↓reduceIte, Nat.reduceEqDiff, Nat.reduceLT, Nat.reduceAdd, Nat.reduceSub, Nat.reduceMul, Nat.reduceLeDiff, reduceCtorEq, Int.reduceNeg, Int.reduceToNat, Int.reduceLT, Int.reduceLE, Int.reduceGE, Int.reduceGT, Int.reduceEq, mv, a.1, a.2, flat_byte]
        rw [hr, if_neg (by simp [h2, hkd, h4]; omega), if_neg h6, boxA, if_pos rfl]
        refine ⟨_, Weak1.tup (Weak.one (pre := []) (Weak1.st (Weak.one (pre := [.raw (.int .i64 c1.toNat), .raw (.int .u64 q.1)]) (post := []) (rowW _ k2 c2 c2 _ _ [] (by rw [List.append_nil]; exact (a.2 _ _).trans (Own.set_same _ _ _)) rfl hc2 (by simp; omega)))))⟩
    · simp (dsimp := false) only [go_sem, ↓reduceIte, Nat.reduceEqDiff, Nat.reduceLT, Nat.reduceAdd, Nat.reduceSub, Nat.reduceMul, Nat.reduceLeDiff, reduceCtorEq, Int.reduceNeg, Int.reduceToNat, Int.reduceLT, Int.reduceLE, Int.reduceGE, Int.reduceGT, Int.reduceEq, g0, g1, g10, g11, w1, w10, w11, ho, h2, h3, h3', h4]
      refine ⟨by omega, by omega, by omega, by omega, by omega, ?_⟩
      rw [hr, if_pos (.inr (.inr (.inl h4))), boxA, if_neg (by decide)]
      exact ⟨_, Weak1.refl _ _⟩
  · simp (dsimp := false) only [go_sem, ↓reduceIte, Nat.reduceEqDiff, Nat.reduceLT, Nat.reduceAdd, Nat.reduceSub, Nat.reduceMul, Nat.reduceLeDiff, reduceCtorEq, Int.reduceNeg, Int.reduceToNat, Int.reduceLT, Int.reduceLE, Int.reduceGE, Int.reduceGT, Int.reduceEq, g0, g1, g10, g11, w1, w10, w11, ho, h2]
    refine ⟨by omega, by omega, by omega, ?_⟩
    rw [hr, if_pos (.inl h2), boxA, if_neg (by decide)]
    exact ⟨_, Weak1.refl _ _⟩
/-- The body of a box of a kind with a key. -/
def openR (b : List UInt8) (kind k : Int) : Option (List UInt8) :=
  let r := boxR b
  if r.2.2.2.2 = 0 ∧ r.2.2.2.1 = b.length ∧ r.1 = kind ∧ r.2.1 = k then some r.2.2.1 else none
def openA : Option (List UInt8) → AV
  | none => .tup [.lst 1 [], .raw (.bool false)]
  | some x => .tup [.lst 1 (x.map byteA), .raw (.bool true)]
set_option maxHeartbeats 4000000 in
theorem boxOpen_pure (b : List UInt8) (kind k : Int) (hn : b.length ≤ 1000000) : PC Tryz.prog 164 [.lst 1 (b.map byteA), .raw (.int .i64 kind), .raw (.int .u64 k)] (openA (openR b kind k)) := by
  refine PC.post ?_
  have hR := boxRead_pure b hn
  obtain ⟨⟨kd, ky, body, n, e⟩, er⟩ : ∃ r, boxR b = r := ⟨_, rfl⟩
  rw [er] at hR
  have ho : openR b kind k = if e = 0 ∧ n = b.length ∧ kd = kind ∧ ky = k then some body else none := by unfold openR; simp only [er]
  by_cases he : e = 0
  · subst he
    rw [boxA, if_pos rfl] at hR
    refine AC.of_body (M := []) Tryz.func164 rfl (by kernel_rfl) (Nat.le_of_ble_eq_true rfl) ?_; simp only [Tryz.results164, Tryz.ntmps164]
    simp (dsimp := false) only [go_sem, ↓reduceIte, Nat.reduceEqDiff, Nat.reduceLT, Nat.reduceAdd, Nat.reduceSub, Nat.reduceMul, Nat.reduceLeDiff, reduceCtorEq, Int.reduceNeg, Int.reduceToNat, Int.reduceLT, Int.reduceLE, Int.reduceGE, Int.reduceGT, Int.reduceEq]
    refine ACs.pure hR ?_
    by_cases h1 : n = (b.length : Int)
    · by_cases h2 : kd = kind
      · by_cases h3 : ky = k
        · simp (dsimp := false) only [go_sem, ↓reduceIte, Nat.reduceEqDiff, Nat.reduceLT, Nat.reduceAdd, Nat.reduceSub, Nat.reduceMul, Nat.reduceLeDiff, reduceCtorEq, Int.reduceNeg, Int.reduceToNat, Int.reduceLT, Int.reduceLE, Int.reduceGE, Int.reduceGT, Int.reduceEq, h1, h2, h3]
          intro k1 _
          rw [ho, if_pos ⟨rfl, h1, h2, h3⟩]
          exact ⟨_, Weak1.refl _ _⟩
        · simp (dsimp := false) only [go_sem, ↓reduceIte, Nat.reduceEqDiff, Nat.reduceLT, Nat.reduceAdd, Nat.reduceSub, Nat.reduceMul, Nat.reduceLeDiff, reduceCtorEq, Int.reduceNeg, Int.reduceToNat, Int.reduceLT, Int.reduceLE, Int.reduceGE, Int.reduceGT, Int.reduceEq, h1, h2, h3]
          intro k1 _
          rw [ho, if_neg (fun h => h3 h.2.2.2)]
          exact ⟨_, Weak1.nil2⟩
      · simp (dsimp := false) only [go_sem, ↓reduceIte, Nat.reduceEqDiff, Nat.reduceLT, Nat.reduceAdd, Nat.reduceSub, Nat.reduceMul, Nat.reduceLeDiff, reduceCtorEq, Int.reduceNeg, Int.reduceToNat, Int.reduceLT, Int.reduceLE, Int.reduceGE, Int.reduceGT, Int.reduceEq, h1, h2]
        intro k1 _
        rw [ho, if_neg (fun h => h2 h.2.2.1)]
        exact ⟨_, Weak1.nil2⟩
    · simp (dsimp := false) only [go_sem, ↓reduceIte, Nat.reduceEqDiff, Nat.reduceLT, Nat.reduceAdd, Nat.reduceSub, Nat.reduceMul, Nat.reduceLeDiff, reduceCtorEq, Int.reduceNeg, Int.reduceToNat, Int.reduceLT, Int.reduceLE, Int.reduceGE, Int.reduceGT, Int.reduceEq, h1]
      intro k1 _
      rw [ho, if_neg (fun h => h1 h.2.1)]
      exact ⟨_, Weak1.nil2⟩
  · rw [boxA, if_neg he] at hR
    refine AC.of_body (M := []) Tryz.func164 rfl (by kernel_rfl) (Nat.le_of_ble_eq_true rfl) ?_; simp only [Tryz.results164, Tryz.ntmps164]
    simp (dsimp := false) only [go_sem, ↓reduceIte, Nat.reduceEqDiff, Nat.reduceLT, Nat.reduceAdd, Nat.reduceSub, Nat.reduceMul, Nat.reduceLeDiff, reduceCtorEq, Int.reduceNeg, Int.reduceToNat, Int.reduceLT, Int.reduceLE, Int.reduceGE, Int.reduceGT, Int.reduceEq]
    refine ACs.pure hR ?_
    simp (dsimp := false) only [go_sem, ↓reduceIte, Nat.reduceEqDiff, Nat.reduceLT, Nat.reduceAdd, Nat.reduceSub, Nat.reduceMul, Nat.reduceLeDiff, reduceCtorEq, Int.reduceNeg, Int.reduceToNat, Int.reduceLT, Int.reduceLE, Int.reduceGE, Int.reduceGT, Int.reduceEq, he]
    intro k1 _
    rw [ho, if_neg (fun h => he h.1)]
    exact ⟨_, Weak1.nil2⟩
set_option maxHeartbeats 4000000 in
theorem rboxOpen_pure (b : List UInt8) (kind k : Int) (hn : b.length ≤ 1000000) : PC Tryz.prog 166 [.lst 1 (b.map byteA), .raw (.int .i64 kind), .raw (.int .u64 k)] (openA (openR b kind k)) := by
  refine PC.post ?_
  have hR := rboxRead_pure b hn
  obtain ⟨⟨kd, ky, body, n, e⟩, er⟩ : ∃ r, boxR b = r := ⟨_, rfl⟩
  rw [er] at hR
  have ho : openR b kind k = if e = 0 ∧ n = b.length ∧ kd = kind ∧ ky = k then some body else none := by unfold openR; simp only [er]
  by_cases he : e = 0
  · subst he
    rw [boxA, if_pos rfl] at hR
    refine AC.of_body (M := []) Tryz.func166 rfl (by kernel_rfl) (Nat.le_of_ble_eq_true rfl) ?_; simp only [Tryz.results166, Tryz.ntmps166]
    simp (dsimp := false) only [go_sem, ↓reduceIte, Nat.reduceEqDiff, Nat.reduceLT, Nat.reduceAdd, Nat.reduceSub, Nat.reduceMul, Nat.reduceLeDiff, reduceCtorEq, Int.reduceNeg, Int.reduceToNat, Int.reduceLT, Int.reduceLE, Int.reduceGE, Int.reduceGT, Int.reduceEq]
    refine ACs.pure hR ?_
    by_cases h1 : n = (b.length : Int)
    · by_cases h2 : kd = kind
      · by_cases h3 : ky = k
        · simp (dsimp := false) only [go_sem, ↓reduceIte, Nat.reduceEqDiff, Nat.reduceLT, Nat.reduceAdd, Nat.reduceSub, Nat.reduceMul, Nat.reduceLeDiff, reduceCtorEq, Int.reduceNeg, Int.reduceToNat, Int.reduceLT, Int.reduceLE, Int.reduceGE, Int.reduceGT, Int.reduceEq, h1, h2, h3]
          intro k1 _
          rw [ho, if_pos ⟨rfl, h1, h2, h3⟩]
          exact ⟨_, Weak1.refl _ _⟩
        · simp (dsimp := false) only [go_sem, ↓reduceIte, Nat.reduceEqDiff, Nat.reduceLT, Nat.reduceAdd, Nat.reduceSub, Nat.reduceMul, Nat.reduceLeDiff, reduceCtorEq, Int.reduceNeg, Int.reduceToNat, Int.reduceLT, Int.reduceLE, Int.reduceGE, Int.reduceGT, Int.reduceEq, h1, h2, h3]
          intro k1 _
          rw [ho, if_neg (fun h => h3 h.2.2.2)]
          exact ⟨_, Weak1.nil2⟩
      · simp (dsimp := false) only [go_sem, ↓reduceIte, Nat.reduceEqDiff, Nat.reduceLT, Nat.reduceAdd, Nat.reduceSub, Nat.reduceMul, Nat.reduceLeDiff, reduceCtorEq, Int.reduceNeg, Int.reduceToNat, Int.reduceLT, Int.reduceLE, Int.reduceGE, Int.reduceGT, Int.reduceEq, h1, h2]
        intro k1 _
        rw [ho, if_neg (fun h => h2 h.2.2.1)]
        exact ⟨_, Weak1.nil2⟩
    · simp (dsimp := false) only [go_sem, ↓reduceIte, Nat.reduceEqDiff, Nat.reduceLT, Nat.reduceAdd, Nat.reduceSub, Nat.reduceMul, Nat.reduceLeDiff, reduceCtorEq, Int.reduceNeg, Int.reduceToNat, Int.reduceLT, Int.reduceLE, Int.reduceGE, Int.reduceGT, Int.reduceEq, h1]
      intro k1 _
      rw [ho, if_neg (fun h => h1 h.2.1)]
      exact ⟨_, Weak1.nil2⟩
  · rw [boxA, if_neg he] at hR
    refine AC.of_body (M := []) Tryz.func166 rfl (by kernel_rfl) (Nat.le_of_ble_eq_true rfl) ?_; simp only [Tryz.results166, Tryz.ntmps166]
    simp (dsimp := false) only [go_sem, ↓reduceIte, Nat.reduceEqDiff, Nat.reduceLT, Nat.reduceAdd, Nat.reduceSub, Nat.reduceMul, Nat.reduceLeDiff, reduceCtorEq, Int.reduceNeg, Int.reduceToNat, Int.reduceLT, Int.reduceLE, Int.reduceGE, Int.reduceGT, Int.reduceEq]
    refine ACs.pure hR ?_
    simp (dsimp := false) only [go_sem, ↓reduceIte, Nat.reduceEqDiff, Nat.reduceLT, Nat.reduceAdd, Nat.reduceSub, Nat.reduceMul, Nat.reduceLeDiff, reduceCtorEq, Int.reduceNeg, Int.reduceToNat, Int.reduceLT, Int.reduceLE, Int.reduceGE, Int.reduceGT, Int.reduceEq, he]
    intro k1 _
    rw [ho, if_neg (fun h => he h.1)]
    exact ⟨_, Weak1.nil2⟩
end Go.Proofs.YtghnigbihllnmaaGreat.Fn
