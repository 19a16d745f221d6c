/- Answers of a service. -/
import Derived.Test.YtghnigbihllnmaaGreatFn43
import Derived.Test.YtghnigbihllnmaaGreatFn39
import Derived.Test.YtghnigbihllnmaaGreatFn15
import Derived.Test.YtghnigbihllnmaaGreatFn13
set_option linter.unusedVariables false
set_option linter.unusedSimpArgs false
namespace Go.Proofs.YtghnigbihllnmaaGreat.Fn
open Go Hl Sp Ty
set_option maxRecDepth 100000
def mutA (lt : Bool) (ck ti tm : Int) : AV := .st [.raw (.int .i64 ck), .raw (.int .i64 ti), .raw (.int .i64 tm)]
/-- The first error. -/
def mutChk (lt : Bool) (ck ti tm : Int) : Int := if ck < 0 ∨ ck > 4294967295 ∨ ti < 0 ∨ ti > 199 ∨ tm < 0 ∨ tm > 4294967295 then 104 else 0
/-- The fields behind the header. -/
def mutF (lt : Bool) (ck ti tm : Int) : List UInt8 := numB ck 4 lt ++ [u8 ti] ++ numB tm 4 lt
def mutB (lt : Bool) (ck ti tm : Int) : List UInt8 := padB ([u8 (flagZ lt)] ++ mutF lt ck ti tm)
theorem mutF_length (lt : Bool) (ck ti tm : Int) : (mutF lt ck ti tm).length = 4 + 1 + 4 := by
  simp only [mutF, List.length_append, prinB_length, numB_length, textB_length, List.length_singleton] <;> omega
/-- What the encoder answers. -/
def mutE (lt : Bool) (ck ti tm : Int) : AV := .tup [.lst 1 ((if mutChk lt ck ti tm = 0 then mutB lt ck ti tm else []).map byteA), .raw (.int .i64 (mutChk lt ck ti tm))]
theorem mutChk_ok {lt : Bool} {ck : Int} {ti : Int} {tm : Int} (h : mutChk lt ck ti tm = 0) : (0 ≤ ck ∧ ck ≤ 4294967295) ∧ (0 ≤ ti ∧ ti ≤ 199) ∧ (0 ≤ tm ∧ tm ≤ 4294967295) := by
  unfold mutChk at h
  split at h
  · cases h
  · rename_i h0
    exact ⟨(by omega), (by omega), (by omega)⟩
/-- Without errors. -/
def mutOk (lt : Bool) (ck ti tm : Int) : Prop := mutChk lt ck ti tm = 0
theorem mutOk_chk {lt : Bool} {ck : Int} {ti : Int} {tm : Int} (h : mutOk lt ck ti tm) : mutChk lt ck ti tm = 0 := h
/-- What is read of the fields. -/
def mutR (b : List UInt8) (lt : Bool) (s0 : Int × Bool) : Int × Int × Int × Bool :=
  let y1 := cNum b 4 lt s0
  let y2 := cNum b 1 false y1.2
  let y3 := cNum b 4 lt y2.2
  (y1.1, y2.1, y3.1, y3.2.2)
theorem mutR_ok (pre post : List UInt8) (lt : Bool) (ck : Int) (ti : Int) (tm : Int) (g1 : 0 ≤ ck ∧ ck ≤ 4294967295) (g2 : 0 ≤ ti ∧ ti ≤ 255) (g3 : 0 ≤ tm ∧ tm ≤ 4294967295) : mutR (pre ++ (mutF lt ck ti tm ++ post)) lt (pre.length, false) = (ck, ti, tm, false) := by
  obtain ⟨b, hb⟩ : ∃ b, b = pre ++ (mutF lt ck ti tm ++ post) := ⟨_, rfl⟩
  obtain ⟨B1, hc1⟩ : ∃ B, B = numB ck 4 lt := ⟨_, rfl⟩
  have hl1 : B1.length = 4 := by rw [hc1]; simp only [prinB_length, numB_length, textB_length]
  obtain ⟨c2, hc2⟩ : ∃ c, c = u8 ti := ⟨_, rfl⟩
  have hu2 : (c2.toNat : Int) = ti := by rw [hc2, u8_toNat]; omega
  obtain ⟨B3, hc3⟩ : ∃ B, B = numB tm 4 lt := ⟨_, rfl⟩
  have hl3 : B3.length = 4 := by rw [hc3]; simp only [prinB_length, numB_length, textB_length]
  have q1 : b = pre ++ (B1 ++ (c2 :: (B3 ++ post))) := by rw [hb, hc1, hc2, hc3]; simp [mutF]
  have q2 : b = (pre ++ B1) ++ (c2 :: (B3 ++ post)) := by rw [q1]; simp
  have q3 : b = (pre ++ B1 ++ [c2]) ++ (B3 ++ post) := by rw [q1]; simp
  have r1 := cNum_num pre (c2 :: (B3 ++ post)) ck 4 lt g1.1 (by omega)
  rw [← hc1, ← q1] at r1
  have r2 := cNum_one (pre ++ B1) (B3 ++ post) c2
  have p2 : ((pre ++ B1).length : Int) = (pre.length : Int) + ((4 : Nat) : Int) := by simp only [List.length_append, List.length_singleton, hl1]; omega
  rw [← q2, p2] at r2
  have r3 := cNum_num (pre ++ B1 ++ [c2]) post tm 4 lt g3.1 (by omega)
  have p3 : ((pre ++ B1 ++ [c2]).length : Int) = (pre.length : Int) + ((4 : Nat) : Int) + 1 := by simp only [List.length_append, List.length_singleton, hl1]; omega
  rw [← hc3, ← q3, p3] at r3
  rw [← hb]
  unfold mutR
  simp only [r1, r2, r3, hu2]
/-- What is read of the fields. -/
def mutRr (b : List UInt8) (lt : Bool) (s0 : Int × Bool) : Int × Int × Int × Bool :=
  let y1 := rNum b 4 lt s0
  let y2 := rNum b 1 false y1.2
  let y3 := rNum b 4 lt y2.2
  (y1.1, y2.1, y3.1, y3.2.2)
theorem mutRr_ok (pre post : List UInt8) (lt : Bool) (ck : Int) (ti : Int) (tm : Int) (g1 : 0 ≤ ck ∧ ck ≤ 4294967295) (g2 : 0 ≤ ti ∧ ti ≤ 255) (g3 : 0 ≤ tm ∧ tm ≤ 4294967295) : mutRr (pre ++ (mutF lt ck ti tm ++ post)) lt (pre.length, false) = (ck, ti, tm, false) := by
  obtain ⟨b, hb⟩ : ∃ b, b = pre ++ (mutF lt ck ti tm ++ post) := ⟨_, rfl⟩
  obtain ⟨B1, hc1⟩ : ∃ B, B = numB ck 4 lt := ⟨_, rfl⟩
  have hl1 : B1.length = 4 := by rw [hc1]; simp only [prinB_length, numB_length, textB_length]
  obtain ⟨c2, hc2⟩ : ∃ c, c = u8 ti := ⟨_, rfl⟩
  have hu2 : (c2.toNat : Int) = ti := by rw [hc2, u8_toNat]; omega
  obtain ⟨B3, hc3⟩ : ∃ B, B = numB tm 4 lt := ⟨_, rfl⟩
  have hl3 : B3.length = 4 := by rw [hc3]; simp only [prinB_length, numB_length, textB_length]
  have q1 : b = pre ++ (B1 ++ (c2 :: (B3 ++ post))) := by rw [hb, hc1, hc2, hc3]; simp [mutF]
  have q2 : b = (pre ++ B1) ++ (c2 :: (B3 ++ post)) := by rw [q1]; simp
  have q3 : b = (pre ++ B1 ++ [c2]) ++ (B3 ++ post) := by rw [q1]; simp
  have r1 := rNum_num pre (c2 :: (B3 ++ post)) ck 4 lt g1.1 (by omega)
  rw [← hc1, ← q1] at r1
  have r2 := rNum_one (pre ++ B1) (B3 ++ post) c2
  have p2 : ((pre ++ B1).length : Int) = (pre.length : Int) + ((4 : Nat) : Int) := by simp only [List.length_append, List.length_singleton, hl1]; omega
  rw [← q2, p2] at r2
  have r3 := rNum_num (pre ++ B1 ++ [c2]) post tm 4 lt g3.1 (by omega)
  have p3 : ((pre ++ B1 ++ [c2]).length : Int) = (pre.length : Int) + ((4 : Nat) : Int) + 1 := by simp only [List.length_append, List.length_singleton, hl1]; omega
  rw [← hc3, ← q3, p3] at r3
  rw [← hb]
  unfold mutRr
  simp only [r1, r2, r3, hu2]
/-- These bytes are those of this message. -/
def mutIs (b : List UInt8) (lt : Bool) (ck ti tm : Int) : Prop := mutOk lt ck ti tm ∧ mutB lt ck ti tm = b
theorem mutIs.read {b : List UInt8} {lt : Bool} {ck : Int} {ti : Int} {tm : Int} (h : mutIs b lt ck ti tm) : mutR b lt (1, false) = (ck, ti, tm, false) := by
  obtain ⟨h1, rfl⟩ := h
  have hc := mutChk_ok (mutOk_chk h1)
  obtain ⟨c1, c2, c3⟩ := hc
  have := mutR_ok ([u8 (flagZ lt)]) (List.replicate (padN ([u8 (flagZ lt)] ++ mutF lt ck ti tm).length) 0) lt ck ti tm (c1) (⟨by omega, by omega⟩) (c3)
  rw [show (([u8 (flagZ lt)]).length : Int) = 1 from rfl] at this
  rw [mutB, padB, List.append_assoc]
  exact this
theorem mutIs.rread {b : List UInt8} {lt : Bool} {ck : Int} {ti : Int} {tm : Int} (h : mutIs b lt ck ti tm) : mutRr b lt (1, false) = (ck, ti, tm, false) := by
  obtain ⟨h1, rfl⟩ := h
  have hc := mutChk_ok (mutOk_chk h1)
  obtain ⟨c1, c2, c3⟩ := hc
  have := mutRr_ok ([u8 (flagZ lt)]) (List.replicate (padN ([u8 (flagZ lt)] ++ mutF lt ck ti tm).length) 0) lt ck ti tm (c1) (⟨by omega, by omega⟩) (c3)
  rw [show (([u8 (flagZ lt)]).length : Int) = 1 from rfl] at this
  rw [mutB, padB, List.append_assoc]
  exact this
theorem mutIs.inj {b : List UInt8} {lt : Bool} {ck : Int} {ti : Int} {tm : Int} {ck' : Int} {ti' : Int} {tm' : Int} (h : mutIs b lt ck ti tm) (h' : mutIs b lt ck' ti' tm') : ck = ck' ∧ ti = ti' ∧ tm = tm' := by
  have := h.read.symm.trans h'.read
  simp only [Prod.mk.injEq] at this
  obtain ⟨a0, a1, a2, _⟩ := this
  exact ⟨a0, a1, a2⟩
def mutZ : AV := .st [.raw (.int .i64 0), .raw (.int .i64 0), .raw (.int .i64 0)]
/-- What the decoder answers. -/
def mutDec (b : List UInt8) (lt : Bool) (d : AV) : Prop :=
  (∃ ck ti tm, mutIs b lt ck ti tm ∧ d = .tup [mutA lt ck ti tm, .raw (.int .i64 0)]) ∨
  ((∀ ck ti tm, ¬ mutIs b lt ck ti tm) ∧ d = .tup [mutZ, .raw (.int .i64 100)])
theorem mutDec.unique {b : List UInt8} {lt : Bool} {d d' : AV} (h : mutDec b lt d) (h' : mutDec b lt d') : d = d' := by
  rcases h with ⟨ck, ti, tm, h1, rfl⟩ | ⟨h1, rfl⟩
  · rcases h' with ⟨ck', ti', tm', h2, rfl⟩ | ⟨h2, rfl⟩
    · obtain ⟨rfl, rfl, rfl⟩ := h1.inj h2
      rfl
    · exact absurd h1 (h2 _ _ _)
  · rcases h' with ⟨ck', ti', tm', h2, rfl⟩ | ⟨h2, rfl⟩
    · exact absurd h2 (h1 _ _ _)
    · rfl
theorem mutDec.of {b : List UInt8} {lt : Bool} {ck : Int} {ti : Int} {tm : Int} {d : AV} (h : mutDec b lt d) (h1 : mutIs b lt ck ti tm) : d = .tup [mutA lt ck ti tm, .raw (.int .i64 0)] := h.unique (.inl ⟨_, _, _, h1, rfl⟩)
theorem mutIs.flag {b : List UInt8} {lt : Bool} {ck ti tm : Int} (h : mutIs b lt ck ti tm) : b.getD 0 0 = u8 (flagZ lt) ∧ 0 < b.length := by
  obtain ⟨_, rfl⟩ := h
  constructor
  · simp [mutB, padB, mutF]
  · simp [mutB, padB, mutF]
theorem mutIs.not {b : List UInt8} {lt : Bool} {ck ti tm ck' ti' tm' : Int} (h : mutIs b lt ck ti tm) (h' : mutIs b (!lt) ck' ti' tm') : False := by
  have e := h.flag.1.symm.trans h'.flag.1
  cases lt <;> exact absurd e (by decide)
set_option maxHeartbeats 8000000 in
theorem mutEncode_pure (lt : Bool) (ck ti tm : Int)  :
    PC Tryz.prog 92 [mutA lt ck ti tm, .raw (.bool lt)] (mutE lt ck ti tm) := by
  refine PC.post ?_
  obtain ⟨b0, e0⟩ : ∃ b, b = [u8 (flagZ lt)] := ⟨_, rfl⟩
  have l0 : b0.length = 1 := by rw [e0]; rfl
  obtain ⟨b1, e1⟩ : ∃ b, b0 ++ numB ck 4 lt = b := ⟨_, rfl⟩
  have l1 : b1.length = b0.length + 4 := by rw [← e1, List.length_append] <;> first | rfl | simp only [prinB_length, numB_length, textB_length]
  obtain ⟨b2, e2⟩ : ∃ b, b1 ++ [u8 ti] = b := ⟨_, rfl⟩
  have l2 : b2.length = b1.length + 1 := by rw [← e2, List.length_append] <;> first | rfl | simp only [prinB_length, numB_length, textB_length]
  obtain ⟨b3, e3⟩ : ∃ b, b2 ++ numB tm 4 lt = b := ⟨_, rfl⟩
  have l3 : b3.length = b2.length + 4 := by rw [← e3, List.length_append] <;> first | rfl | simp only [prinB_length, numB_length, textB_length]
  obtain ⟨b4, e4⟩ : ∃ b, b3 ++ List.replicate (padN b3.length) 0 = b := ⟨_, rfl⟩
  have hfin : mutB lt ck ti tm = b4 := by rw [mutB, padB, mutF, ← e4, ← e3, ← e2, ← e1, e0]; simp only [List.append_assoc]
  have p1 := PutNumber_pure b0 ck lt (by omega)
  rw [e1] at p1
  have p2 := PutOctet_pure b1 ti (by omega)
  rw [e2] at p2
  have p3 := PutNumber_pure b2 tm lt (by omega)
  rw [e3] at p3
  have p4 := Pad_pure b3 (by omega)
  rw [e4] at p4
  have p0 := PutOctet_pure [] (flagZ lt) (by simp)
  rw [List.nil_append, ← e0] at p0
  unfold mutA
  refine AC.of_body (M := []) Tryz.func92 rfl (by kernel_rfl) (Nat.le_of_ble_eq_true rfl) ?_; simp only [Tryz.results92, Tryz.ntmps92]
  simp (dsimp := false) only [go_sem, ↓reduceIte, Nat.reduceEqDiff, Nat.reduceLT, Nat.reduceAdd, Nat.reduceSub, Nat.reduceMul, Nat.reduceLeDiff, reduceCtorEq, Int.reduceNeg, Int.reduceToNat, Int.reduceLT, Int.reduceLE, Int.reduceGE, Int.reduceGT, Int.reduceEq]
  refine ACs.pure (outside10_pure ck _) ?_
  by_cases h0_0 : ck < 0 ∨ ck > 4294967295
  · simp (dsimp := false) only [go_sem, ↓reduceIte, Nat.reduceEqDiff, Nat.reduceLT, Nat.reduceAdd, Nat.reduceSub, Nat.reduceMul, Nat.reduceLeDiff, reduceCtorEq, Int.reduceNeg, Int.reduceToNat, Int.reduceLT, Int.reduceLE, Int.reduceGE, Int.reduceGT, Int.reduceEq, h0_0]
    have hC : mutChk lt ck ti tm = 104 := by rw [mutChk, if_pos (by omega)]
    refine ⟨noOwn, ?_⟩
    rw [mutE, hC, if_neg (by decide)]
    exact Weak1.nil2
  · simp (dsimp := false) only [go_sem, ↓reduceIte, Nat.reduceEqDiff, Nat.reduceLT, Nat.reduceAdd, Nat.reduceSub, Nat.reduceMul, Nat.reduceLeDiff, reduceCtorEq, Int.reduceNeg, Int.reduceToNat, Int.reduceLT, Int.reduceLE, Int.reduceGE, Int.reduceGT, Int.reduceEq, h0_0]
    refine ACs.pure (outside10_pure ti _) ?_
    by_cases h0_1 : ti < 0 ∨ ti > 199
    · simp (dsimp := false) only [go_sem, ↓reduceIte, Nat.reduceEqDiff, Nat.reduceLT, Nat.reduceAdd, Nat.reduceSub, Nat.reduceMul, Nat.reduceLeDiff, reduceCtorEq, Int.reduceNeg, Int.reduceToNat, Int.reduceLT, Int.reduceLE, Int.reduceGE, Int.reduceGT, Int.reduceEq, h0_1]
      have hC : mutChk lt ck ti tm = 104 := by rw [mutChk, if_pos (by omega)]
      refine ⟨noOwn, ?_⟩
      rw [mutE, hC, if_neg (by decide)]
      exact Weak1.nil2
    · simp (dsimp := false) only [go_sem, ↓reduceIte, Nat.reduceEqDiff, Nat.reduceLT, Nat.reduceAdd, Nat.reduceSub, Nat.reduceMul, Nat.reduceLeDiff, reduceCtorEq, Int.reduceNeg, Int.reduceToNat, Int.reduceLT, Int.reduceLE, Int.reduceGE, Int.reduceGT, Int.reduceEq, h0_1]
      refine ACs.pure (outside10_pure tm _) ?_
      by_cases h0_2 : tm < 0 ∨ tm > 4294967295
      · simp (dsimp := false) only [go_sem, ↓reduceIte, Nat.reduceEqDiff, Nat.reduceLT, Nat.reduceAdd, Nat.reduceSub, Nat.reduceMul, Nat.reduceLeDiff, reduceCtorEq, Int.reduceNeg, Int.reduceToNat, Int.reduceLT, Int.reduceLE, Int.reduceGE, Int.reduceGT, Int.reduceEq, h0_2]
        have hC : mutChk lt ck ti tm = 104 := by rw [mutChk, if_pos (by omega)]
        refine ⟨noOwn, ?_⟩
        rw [mutE, hC, if_neg (by decide)]
        exact Weak1.nil2
      · simp (dsimp := false) only [go_sem, ↓reduceIte, Nat.reduceEqDiff, Nat.reduceLT, Nat.reduceAdd, Nat.reduceSub, Nat.reduceMul, Nat.reduceLeDiff, reduceCtorEq, Int.reduceNeg, Int.reduceToNat, Int.reduceLT, Int.reduceLE, Int.reduceGE, Int.reduceGT, Int.reduceEq, h0_2]
        have hC : mutChk lt ck ti tm = 0 := by rw [mutChk, if_neg (by omega)]
        (try refine AW.draw (M := []) [.v, .e, .e, .v, .v, .v, .e, .v] mixed (by kernel_rfl) ?_)
        (try simp (dsimp := false) only [go_sem, ↓reduceIte, Nat.reduceEqDiff, Nat.reduceLT, Nat.reduceAdd, Nat.reduceSub, Nat.reduceMul, Nat.reduceLeDiff, reduceCtorEq, Int.reduceNeg, Int.reduceToNat, Int.reduceLT, Int.reduceLE, Int.reduceGE, Int.reduceGT, Int.reduceEq])
        refine ACs.pure (Flag_pure lt) ?_
        (try simp (dsimp := false) only [go_sem, ↓reduceIte, Nat.reduceEqDiff, Nat.reduceLT, Nat.reduceAdd, Nat.reduceSub, Nat.reduceMul, Nat.reduceLeDiff, reduceCtorEq, Int.reduceNeg, Int.reduceToNat, Int.reduceLT, Int.reduceLE, Int.reduceGE, Int.reduceGT, Int.reduceEq])
        refine ACs.arg (pre := []) (Weak1.nil (wd := 1)) ?_
        refine ACs.pure p0 ?_
        (try simp (dsimp := false) only [go_sem, ↓reduceIte, Nat.reduceEqDiff, Nat.reduceLT, Nat.reduceAdd, Nat.reduceSub, Nat.reduceMul, Nat.reduceLeDiff, reduceCtorEq, Int.reduceNeg, Int.reduceToNat, Int.reduceLT, Int.reduceLE, Int.reduceGE, Int.reduceGT, Int.reduceEq])
        refine ACs.pure p1 ?_
        (try simp (dsimp := false) only [go_sem, ↓reduceIte, Nat.reduceEqDiff, Nat.reduceLT, Nat.reduceAdd, Nat.reduceSub, Nat.reduceMul, Nat.reduceLeDiff, reduceCtorEq, Int.reduceNeg, Int.reduceToNat, Int.reduceLT, Int.reduceLE, Int.reduceGE, Int.reduceGT, Int.reduceEq])
        (try refine AW.draw (M := []) [.v, .v, .v, .e, .v] mixed (by kernel_rfl) ?_)
        (try simp (dsimp := false) only [go_sem, ↓reduceIte, Nat.reduceEqDiff, Nat.reduceLT, Nat.reduceAdd, Nat.reduceSub, Nat.reduceMul, Nat.reduceLeDiff, reduceCtorEq, Int.reduceNeg, Int.reduceToNat, Int.reduceLT, Int.reduceLE, Int.reduceGE, Int.reduceGT, Int.reduceEq])
        refine ACs.pure p2 ?_
        (try simp (dsimp := false) only [go_sem, ↓reduceIte, Nat.reduceEqDiff, Nat.reduceLT, Nat.reduceAdd, Nat.reduceSub, Nat.reduceMul, Nat.reduceLeDiff, reduceCtorEq, Int.reduceNeg, Int.reduceToNat, Int.reduceLT, Int.reduceLE, Int.reduceGE, Int.reduceGT, Int.reduceEq])
        (try refine AW.draw (M := []) [.v, .v, .v, .v, .e, .e, .v, .v] mixed (by kernel_rfl) ?_)
        (try simp (dsimp := false) only [go_sem, ↓reduceIte, Nat.reduceEqDiff, Nat.reduceLT, Nat.reduceAdd, Nat.reduceSub, Nat.reduceMul, Nat.reduceLeDiff, reduceCtorEq, Int.reduceNeg, Int.reduceToNat, Int.reduceLT, Int.reduceLE, Int.reduceGE, Int.reduceGT, Int.reduceEq])
        refine ACs.pure p3 ?_
        (try simp (dsimp := false) only [go_sem, ↓reduceIte, Nat.reduceEqDiff, Nat.reduceLT, Nat.reduceAdd, Nat.reduceSub, Nat.reduceMul, Nat.reduceLeDiff, reduceCtorEq, Int.reduceNeg, Int.reduceToNat, Int.reduceLT, Int.reduceLE, Int.reduceGE, Int.reduceGT, Int.reduceEq])
        refine ACs.pure p4 ?_
        (try simp (dsimp := false) only [go_sem, ↓reduceIte, Nat.reduceEqDiff, Nat.reduceLT, Nat.reduceAdd, Nat.reduceSub, Nat.reduceMul, Nat.reduceLeDiff, reduceCtorEq, Int.reduceNeg, Int.reduceToNat, Int.reduceLT, Int.reduceLE, Int.reduceGE, Int.reduceGT, Int.reduceEq])
        rw [mutE, hC, if_pos rfl, hfin]
        exact ⟨_, Weak1.refl _ _⟩
set_option maxHeartbeats 8000000 in
theorem rmutEncode_pure (lt : Bool) (ck ti tm : Int)  :
    PC Tryz.prog 31 [mutA lt ck ti tm, .raw (.bool lt)] (mutE lt ck ti tm) := by
  refine PC.post ?_
  obtain ⟨b0, e0⟩ : ∃ b, b = [u8 (flagZ lt)] := ⟨_, rfl⟩
  have l0 : b0.length = 1 := by rw [e0]; rfl
  obtain ⟨b1, e1⟩ : ∃ b, b0 ++ numB ck 4 lt = b := ⟨_, rfl⟩
  have l1 : b1.length = b0.length + 4 := by rw [← e1, List.length_append] <;> first | rfl | simp only [prinB_length, numB_length, textB_length]
  obtain ⟨b2, e2⟩ : ∃ b, b1 ++ [u8 ti] = b := ⟨_, rfl⟩
  have l2 : b2.length = b1.length + 1 := by rw [← e2, List.length_append] <;> first | rfl | simp only [prinB_length, numB_length, textB_length]
  obtain ⟨b3, e3⟩ : ∃ b, b2 ++ numB tm 4 lt = b := ⟨_, rfl⟩
  have l3 : b3.length = b2.length + 4 := by rw [← e3, List.length_append] <;> first | rfl | simp only [prinB_length, numB_length, textB_length]
  obtain ⟨b4, e4⟩ : ∃ b, b3 ++ List.replicate (padN b3.length) 0 = b := ⟨_, rfl⟩
  have hfin : mutB lt ck ti tm = b4 := by rw [mutB, padB, mutF, ← e4, ← e3, ← e2, ← e1, e0]; simp only [List.append_assoc]
  have p1 := rPutNumber_pure b0 ck lt (by omega)
  rw [e1] at p1
  have p2 := rPutOctet_pure b1 ti (by omega)
  rw [e2] at p2
  have p3 := rPutNumber_pure b2 tm lt (by omega)
  rw [e3] at p3
  have p4 := rPad_pure b3 (by omega)
  rw [e4] at p4
  have p0 := rPutOrder_pure [] lt (by simp)
  rw [List.nil_append, ← e0] at p0
  unfold mutA
  refine AC.of_body (M := []) Tryz.func31 rfl (by kernel_rfl) (Nat.le_of_ble_eq_true rfl) ?_; simp only [Tryz.results31, Tryz.ntmps31]
  simp (dsimp := false) only [go_sem, ↓reduceIte, Nat.reduceEqDiff, Nat.reduceLT, Nat.reduceAdd, Nat.reduceSub, Nat.reduceMul, Nat.reduceLeDiff, reduceCtorEq, Int.reduceNeg, Int.reduceToNat, Int.reduceLT, Int.reduceLE, Int.reduceGE, Int.reduceGT, Int.reduceEq]
  refine ACs.pure (within10_pure ck _) ?_
  by_cases h0_0 : ck ≥ 0 ∧ ck ≤ 4294967295
  rotate_left
  · simp (dsimp := false) only [go_sem, ↓reduceIte, Nat.reduceEqDiff, Nat.reduceLT, Nat.reduceAdd, Nat.reduceSub, Nat.reduceMul, Nat.reduceLeDiff, reduceCtorEq, Int.reduceNeg, Int.reduceToNat, Int.reduceLT, Int.reduceLE, Int.reduceGE, Int.reduceGT, Int.reduceEq, h0_0]
    have hC : mutChk lt ck ti tm = 104 := by rw [mutChk, if_pos (by omega)]
    refine ⟨noOwn, ?_⟩
    rw [mutE, hC, if_neg (by decide)]
    exact Weak1.nil2
  · simp (dsimp := false) only [go_sem, ↓reduceIte, Nat.reduceEqDiff, Nat.reduceLT, Nat.reduceAdd, Nat.reduceSub, Nat.reduceMul, Nat.reduceLeDiff, reduceCtorEq, Int.reduceNeg, Int.reduceToNat, Int.reduceLT, Int.reduceLE, Int.reduceGE, Int.reduceGT, Int.reduceEq, h0_0]
    refine ACs.pure (within10_pure ti _) ?_
    by_cases h0_1 : ti ≥ 0 ∧ ti ≤ 199
    rotate_left
    · simp (dsimp := false) only [go_sem, ↓reduceIte, Nat.reduceEqDiff, Nat.reduceLT, Nat.reduceAdd, Nat.reduceSub, Nat.reduceMul, Nat.reduceLeDiff, reduceCtorEq, Int.reduceNeg, Int.reduceToNat, Int.reduceLT, Int.reduceLE, Int.reduceGE, Int.reduceGT, Int.reduceEq, h0_1]
      have hC : mutChk lt ck ti tm = 104 := by rw [mutChk, if_pos (by omega)]
      refine ⟨noOwn, ?_⟩
      rw [mutE, hC, if_neg (by decide)]
      exact Weak1.nil2
    · simp (dsimp := false) only [go_sem, ↓reduceIte, Nat.reduceEqDiff, Nat.reduceLT, Nat.reduceAdd, Nat.reduceSub, Nat.reduceMul, Nat.reduceLeDiff, reduceCtorEq, Int.reduceNeg, Int.reduceToNat, Int.reduceLT, Int.reduceLE, Int.reduceGE, Int.reduceGT, Int.reduceEq, h0_1]
      refine ACs.pure (within10_pure tm _) ?_
      by_cases h0_2 : tm ≥ 0 ∧ tm ≤ 4294967295
      rotate_left
      · simp (dsimp := false) only [go_sem, ↓reduceIte, Nat.reduceEqDiff, Nat.reduceLT, Nat.reduceAdd, Nat.reduceSub, Nat.reduceMul, Nat.reduceLeDiff, reduceCtorEq, Int.reduceNeg, Int.reduceToNat, Int.reduceLT, Int.reduceLE, Int.reduceGE, Int.reduceGT, Int.reduceEq, h0_2]
        have hC : mutChk lt ck ti tm = 104 := by rw [mutChk, if_pos (by omega)]
        refine ⟨noOwn, ?_⟩
        rw [mutE, hC, if_neg (by decide)]
        exact Weak1.nil2
      · simp (dsimp := false) only [go_sem, ↓reduceIte, Nat.reduceEqDiff, Nat.reduceLT, Nat.reduceAdd, Nat.reduceSub, Nat.reduceMul, Nat.reduceLeDiff, reduceCtorEq, Int.reduceNeg, Int.reduceToNat, Int.reduceLT, Int.reduceLE, Int.reduceGE, Int.reduceGT, Int.reduceEq, h0_2]
        have hC : mutChk lt ck ti tm = 0 := by rw [mutChk, if_neg (by omega)]
        (try refine AW.draw (M := []) [.v, .e, .v, .v, .v, .e, .v] mixed (by kernel_rfl) ?_)
        (try simp (dsimp := false) only [go_sem, ↓reduceIte, Nat.reduceEqDiff, Nat.reduceLT, Nat.reduceAdd, Nat.reduceSub, Nat.reduceMul, Nat.reduceLeDiff, reduceCtorEq, Int.reduceNeg, Int.reduceToNat, Int.reduceLT, Int.reduceLE, Int.reduceGE, Int.reduceGT, Int.reduceEq])
        refine ACs.arg (pre := []) (Weak1.nil (wd := 1)) ?_
        refine ACs.pure p0 ?_
        (try simp (dsimp := false) only [go_sem, ↓reduceIte, Nat.reduceEqDiff, Nat.reduceLT, Nat.reduceAdd, Nat.reduceSub, Nat.reduceMul, Nat.reduceLeDiff, reduceCtorEq, Int.reduceNeg, Int.reduceToNat, Int.reduceLT, Int.reduceLE, Int.reduceGE, Int.reduceGT, Int.reduceEq])
        refine ACs.pure p1 ?_
        (try simp (dsimp := false) only [go_sem, ↓reduceIte, Nat.reduceEqDiff, Nat.reduceLT, Nat.reduceAdd, Nat.reduceSub, Nat.reduceMul, Nat.reduceLeDiff, reduceCtorEq, Int.reduceNeg, Int.reduceToNat, Int.reduceLT, Int.reduceLE, Int.reduceGE, Int.reduceGT, Int.reduceEq])
        (try refine AW.draw (M := []) [.v, .v, .v, .e, .v] mixed (by kernel_rfl) ?_)
        (try simp (dsimp := false) only [go_sem, ↓reduceIte, Nat.reduceEqDiff, Nat.reduceLT, Nat.reduceAdd, Nat.reduceSub, Nat.reduceMul, Nat.reduceLeDiff, reduceCtorEq, Int.reduceNeg, Int.reduceToNat, Int.reduceLT, Int.reduceLE, Int.reduceGE, Int.reduceGT, Int.reduceEq])
        refine ACs.pure p2 ?_
        (try simp (dsimp := false) only [go_sem, ↓reduceIte, Nat.reduceEqDiff, Nat.reduceLT, Nat.reduceAdd, Nat.reduceSub, Nat.reduceMul, Nat.reduceLeDiff, reduceCtorEq, Int.reduceNeg, Int.reduceToNat, Int.reduceLT, Int.reduceLE, Int.reduceGE, Int.reduceGT, Int.reduceEq])
        (try refine AW.draw (M := []) [.v, .v, .v, .v, .e, .e, .v, .v] mixed (by kernel_rfl) ?_)
        (try simp (dsimp := false) only [go_sem, ↓reduceIte, Nat.reduceEqDiff, Nat.reduceLT, Nat.reduceAdd, Nat.reduceSub, Nat.reduceMul, Nat.reduceLeDiff, reduceCtorEq, Int.reduceNeg, Int.reduceToNat, Int.reduceLT, Int.reduceLE, Int.reduceGE, Int.reduceGT, Int.reduceEq])
        refine ACs.pure p3 ?_
        (try simp (dsimp := false) only [go_sem, ↓reduceIte, Nat.reduceEqDiff, Nat.reduceLT, Nat.reduceAdd, Nat.reduceSub, Nat.reduceMul, Nat.reduceLeDiff, reduceCtorEq, Int.reduceNeg, Int.reduceToNat, Int.reduceLT, Int.reduceLE, Int.reduceGE, Int.reduceGT, Int.reduceEq])
        refine ACs.pure p4 ?_
        (try simp (dsimp := false) only [go_sem, ↓reduceIte, Nat.reduceEqDiff, Nat.reduceLT, Nat.reduceAdd, Nat.reduceSub, Nat.reduceMul, Nat.reduceLeDiff, reduceCtorEq, Int.reduceNeg, Int.reduceToNat, Int.reduceLT, Int.reduceLE, Int.reduceGE, Int.reduceGT, Int.reduceEq])
        rw [mutE, hC, if_pos rfl, hfin]
        exact ⟨_, Weak1.refl _ _⟩
set_option maxHeartbeats 8000000 in
theorem mutDecode_pn (b : List UInt8) (lt : Bool) (hn : b.length ≤ 140737488355000) : PN Tryz.prog 39 [.lst 1 (b.map byteA), .raw (.bool lt)] (mutDec b lt) := by
  refine PN.of_ac ?_
  obtain ⟨x0, ex⟩ : ∃ x, cNum b 1 false (0, false) = x := ⟨_, rfl⟩
  have hx : 0 < b.length → x0.2 = (1, false) := fun hp => by
    cases b with
    | nil => simp at hp
    | cons c rest =>
      have := cNum_one [] rest c
      rw [show ([] : List UInt8) ++ (c :: rest) = c :: rest from rfl, show (([] : List UInt8).length : Int) = 0 from rfl, ex] at this
      rw [this]
      rfl
  have hrd : ∀ {ck ti tm : Int}, mutIs b lt ck ti tm → mutR b lt x0.2 = (ck, ti, tm, false) := fun h => by
    rw [hx h.flag.2]
    exact h.read
  have o0 : 0 ≤ x0.2.1 ∧ x0.2.1 ≤ b.length := by rw [← ex]; exact cNum_ok (Int.le_refl _) (by simp)
  obtain ⟨x1, e1⟩ : ∃ x, cNum b 4 lt x0.2 = x := ⟨_, rfl⟩
  have o1 : 0 ≤ x1.2.1 ∧ x1.2.1 ≤ b.length := by rw [← e1]; exact cNum_ok o0.1 o0.2
  obtain ⟨x2, e2⟩ : ∃ x, cNum b 1 false x1.2 = x := ⟨_, rfl⟩
  have o2 : 0 ≤ x2.2.1 ∧ x2.2.1 ≤ b.length := by rw [← e2]; exact cNum_ok o1.1 o1.2
  obtain ⟨x3, e3⟩ : ∃ x, cNum b 4 lt x2.2 = x := ⟨_, rfl⟩
  have o3 : 0 ≤ x3.2.1 ∧ x3.2.1 ≤ b.length := by rw [← e3]; exact cNum_ok o2.1 o2.2
  have hR : mutR b lt x0.2 = (x1.1, x2.1, x3.1, x3.2.2) := by simp only [mutR, e1, e2, e3]
  have hE := mutEncode_pure lt x1.1 x2.1 x3.1
  unfold mutA mutE at hE
  have key : ∀ ck' ti' tm', mutIs b lt ck' ti' tm' → ck' = x1.1 ∧ ti' = x2.1 ∧ tm' = x3.1 ∧ x3.2.2 = false := fun ck' ti' tm' h => by
    have := (hrd h).symm.trans hR
    simp only [Prod.mk.injEq] at this
    obtain ⟨a0, a1, a2, j⟩ := this
    exact ⟨a0, a1, a2, j.symm⟩
  refine AC.of_body (M := []) Tryz.func39 rfl (by kernel_rfl) (Nat.le_of_ble_eq_true rfl) ?_; simp only [Tryz.results39, Tryz.ntmps39]
  simp (dsimp := false) only [go_sem, ↓reduceIte, Nat.reduceEqDiff, Nat.reduceLT, Nat.reduceAdd, Nat.reduceSub, Nat.reduceMul, Nat.reduceLeDiff, reduceCtorEq, Int.reduceNeg, Int.reduceToNat, Int.reduceLT, Int.reduceLE, Int.reduceGE, Int.reduceGT, Int.reduceEq]
  intro k1 hk1
  refine ACs.of (CNew_own b 0 lt _ _ fun k hk => ?_)
  have n1 := none_ne hk
  have a1 : ∀ (own : Own) o, (own.set k1 o) k = own k := fun own o => Own.set_ne _ _ n1
  have a2 : ∀ (own : Own) o, (own.set k o) k1 = own k1 := fun own o => Own.set_ne _ _ (Ne.symm n1)
  simp (dsimp := false) only [go_sem, ↓reduceIte, Nat.reduceEqDiff, Nat.reduceLT, Nat.reduceAdd, Nat.reduceSub, Nat.reduceMul, Nat.reduceLeDiff, reduceCtorEq, Int.reduceNeg, Int.reduceToNat, Int.reduceLT, Int.reduceLE, Int.reduceGE, Int.reduceGT, Int.reduceEq, a1, a2]
  refine ACs.of (COctet_own b lt (0, false) k _ _ (Own.set_same _ _ _) (Int.le_refl _) (by simp) hn ?_)
  simp (dsimp := false) only [go_sem, ↓reduceIte, Nat.reduceEqDiff, Nat.reduceLT, Nat.reduceAdd, Nat.reduceSub, Nat.reduceMul, Nat.reduceLeDiff, reduceCtorEq, Int.reduceNeg, Int.reduceToNat, Int.reduceLT, Int.reduceLE, Int.reduceGE, Int.reduceGT, Int.reduceEq, ex, a1, a2]
  refine ACs.of (CNumber_own b lt x0.2 k _ _ (by simp only [a1, a2, Own.set_same]) o0.1 o0.2 hn ?_)
  simp (dsimp := false) only [go_sem, ↓reduceIte, Nat.reduceEqDiff, Nat.reduceLT, Nat.reduceAdd, Nat.reduceSub, Nat.reduceMul, Nat.reduceLeDiff, reduceCtorEq, Int.reduceNeg, Int.reduceToNat, Int.reduceLT, Int.reduceLE, Int.reduceGE, Int.reduceGT, Int.reduceEq, e1, a1, a2]
  intro k2 hk2
  have n2 := none_ne hk2
  have hk2' := hk2
  rw [Own.set_ne _ _ n2] at hk2'
  have n12 := none_ne hk2'
  have b1 : ∀ (own : Own) o, (own.set k2 o) k = own k := fun own o => Own.set_ne _ _ (Ne.symm n2)
  have b2 : ∀ (own : Own) o, (own.set k o) k2 = own k2 := fun own o => Own.set_ne _ _ n2
  have b3 : ∀ (own : Own) o, (own.set k2 o) k1 = own k1 := fun own o => Own.set_ne _ _ (Ne.symm n12)
  have b4 : ∀ (own : Own) o, (own.set k1 o) k2 = own k2 := fun own o => Own.set_ne _ _ n12
  clear hk2 hk2' hk hk1
  refine ACs.of (COctet_own b lt x1.2 k _ _ (by simp only [a1, a2, b1, b2, b3, b4, Own.set_same]) o1.1 o1.2 hn ?_)
  simp (dsimp := false) only [go_sem, ↓reduceIte, Nat.reduceEqDiff, Nat.reduceLT, Nat.reduceAdd, Nat.reduceSub, Nat.reduceMul, Nat.reduceLeDiff, reduceCtorEq, Int.reduceNeg, Int.reduceToNat, Int.reduceLT, Int.reduceLE, Int.reduceGE, Int.reduceGT, Int.reduceEq, e2, a1, a2, b1, b2, b3, b4]
  refine ACs.of (CNumber_own b lt x2.2 k _ _ (by simp only [a1, a2, b1, b2, b3, b4, Own.set_same]) o2.1 o2.2 hn ?_)
  simp (dsimp := false) only [go_sem, ↓reduceIte, Nat.reduceEqDiff, Nat.reduceLT, Nat.reduceAdd, Nat.reduceSub, Nat.reduceMul, Nat.reduceLeDiff, reduceCtorEq, Int.reduceNeg, Int.reduceToNat, Int.reduceLT, Int.reduceLE, Int.reduceGE, Int.reduceGT, Int.reduceEq, e3, a1, a2, b1, b2, b3, b4]
  refine ACs.pure hE ?_
  simp (dsimp := false) only [go_sem, ↓reduceIte, Nat.reduceEqDiff, Nat.reduceLT, Nat.reduceAdd, Nat.reduceSub, Nat.reduceMul, Nat.reduceLeDiff, reduceCtorEq, Int.reduceNeg, Int.reduceToNat, Int.reduceLT, Int.reduceLE, Int.reduceGE, Int.reduceGT, Int.reduceEq, a1, a2, b1, b2, b3, b4]
  refine ACs.of (CBad_own b lt x3.2 k _ _ (by simp only [a1, a2, b1, b2, b3, b4, Own.set_same]) ?_)
  rcases Bool.eq_false_or_eq_true x3.2.2 with hb | hb
  · simp (dsimp := false) only [go_sem, ↓reduceIte, Nat.reduceEqDiff, Nat.reduceLT, Nat.reduceAdd, Nat.reduceSub, Nat.reduceMul, Nat.reduceLeDiff, reduceCtorEq, Int.reduceNeg, Int.reduceToNat, Int.reduceLT, Int.reduceLE, Int.reduceGE, Int.reduceGT, Int.reduceEq, hb, a1, a2, b1, b2, b3, b4]
    refine .inr ⟨fun ck' ti' tm' h => ?_, rfl⟩
    rw [(key _ _ _ h).2.2.2] at hb
    cases hb
  by_cases hc : mutChk lt x1.1 x2.1 x3.1 = 0
  · simp (dsimp := false) only [go_sem, ↓reduceIte, Nat.reduceEqDiff, Nat.reduceLT, Nat.reduceAdd, Nat.reduceSub, Nat.reduceMul, Nat.reduceLeDiff, reduceCtorEq, Int.reduceNeg, Int.reduceToNat, Int.reduceLT, Int.reduceLE, Int.reduceGE, Int.reduceGT, Int.reduceEq, hb, hc, a1, a2, b1, b2, b3, b4]
    refine ACs.pure (Equal_pure _ b) ?_
    by_cases hq : mutB lt x1.1 x2.1 x3.1 = b
    · simp (dsimp := false) only [go_sem, ↓reduceIte, Nat.reduceEqDiff, Nat.reduceLT, Nat.reduceAdd, Nat.reduceSub, Nat.reduceMul, Nat.reduceLeDiff, reduceCtorEq, Int.reduceNeg, Int.reduceToNat, Int.reduceLT, Int.reduceLE, Int.reduceGE, Int.reduceGT, Int.reduceEq, hq, a1, a2, b1, b2, b3, b4]
      exact .inl ⟨_, _, _, ⟨hc, hq⟩, rfl⟩
    · simp (dsimp := false) only [go_sem, ↓reduceIte, Nat.reduceEqDiff, Nat.reduceLT, Nat.reduceAdd, Nat.reduceSub, Nat.reduceMul, Nat.reduceLeDiff, reduceCtorEq, Int.reduceNeg, Int.reduceToNat, Int.reduceLT, Int.reduceLE, Int.reduceGE, Int.reduceGT, Int.reduceEq, hq, a1, a2, b1, b2, b3, b4]
      refine .inr ⟨fun ck' ti' tm' h => ?_, rfl⟩
      obtain ⟨rfl, rfl, rfl, _⟩ := key _ _ _ h
      exact hq h.2
  · simp (dsimp := false) only [go_sem, ↓reduceIte, Nat.reduceEqDiff, Nat.reduceLT, Nat.reduceAdd, Nat.reduceSub, Nat.reduceMul, Nat.reduceLeDiff, reduceCtorEq, Int.reduceNeg, Int.reduceToNat, Int.reduceLT, Int.reduceLE, Int.reduceGE, Int.reduceGT, Int.reduceEq, hb, hc, a1, a2, b1, b2, b3, b4]
    refine .inr ⟨fun ck' ti' tm' h => ?_, rfl⟩
    obtain ⟨rfl, rfl, rfl, _⟩ := key _ _ _ h
    exact hc (mutOk_chk h.1)
def ansA (lt : Bool) (x : List UInt8) : AV := .lst 1 (x.map byteA)
/-- The first error. -/
def ansChk (lt : Bool) (x : List UInt8) : Int := if (x.length : Int) > 1012 then 105 else 0
/-- The fields behind the header. -/
def ansF (lt : Bool) (x : List UInt8) : List UInt8 := numB (x.length : Int) 2 lt ++ x
def ansB (lt : Bool) (x : List UInt8) : List UInt8 := hdB 8 lt ++ ansF lt x
theorem ansF_length (lt : Bool) (x : List UInt8) : (ansF lt x).length = 2 + x.length := by
  simp only [ansF, List.length_append, prinB_length, numB_length, textB_length, List.length_singleton] <;> omega
/-- What the encoder answers. -/
def ansE (lt : Bool) (x : List UInt8) : AV := .tup [.lst 1 ((if ansChk lt x = 0 then ansB lt x else []).map byteA), .raw (.int .i64 (ansChk lt x))]
theorem ansChk_ok {lt : Bool} {x : List UInt8} (h : ansChk lt x = 0) : (x.length : Int) ≤ 1012 := by
  unfold ansChk at h
  split at h
  · cases h
  · rename_i h0
    exact (by omega)
/-- Without errors. -/
def ansOk (lt : Bool) (x : List UInt8) : Prop := ansChk lt x = 0
theorem ansOk_chk {lt : Bool} {x : List UInt8} (h : ansOk lt x) : ansChk lt x = 0 := h
/-- What is read of the fields. -/
def ansR (b : List UInt8) (lt : Bool) (s0 : Int × Bool) : Int × List UInt8 × Bool :=
  let y1 := cNum b 2 lt s0
  let y2 := cByt b y1.1 y1.2
  (y1.1, y2.1, y2.2.2)
theorem ansR_ok (pre post : List UInt8) (lt : Bool) (x : List UInt8) (g1 : 0 ≤ (x.length : Int) ∧ (x.length : Int) ≤ 65535) (g2 : (x.length : Int) = (x.length : Int)) : ansR (pre ++ (ansF lt x ++ post)) lt (pre.length, false) = ((x.length : Int), x, false) := by
  obtain ⟨b, hb⟩ : ∃ b, b = pre ++ (ansF lt x ++ post) := ⟨_, rfl⟩
  obtain ⟨B1, hc1⟩ : ∃ B, B = numB (x.length : Int) 2 lt := ⟨_, rfl⟩
  have hl1 : B1.length = 2 := by rw [hc1]; simp only [prinB_length, numB_length, textB_length]
  have q1 : b = pre ++ (B1 ++ (x ++ post)) := by rw [hb, hc1]; simp [ansF]
  have q2 : b = (pre ++ B1) ++ (x ++ post) := by rw [q1]; simp
  have r1 := cNum_num pre (x ++ post) (x.length : Int) 2 lt g1.1 (by omega)
  rw [← hc1, ← q1] at r1
  have r2 := cByt_at (pre ++ B1) x post (x.length : Int) g2
  have p2 : ((pre ++ B1).length : Int) = (pre.length : Int) + ((2 : Nat) : Int) := by simp only [List.length_append, List.length_singleton, hl1]; omega
  rw [← q2, p2] at r2
  rw [← hb]
  unfold ansR
  simp only [r1, r2]
/-- What is read of the fields. -/
def ansRr (b : List UInt8) (lt : Bool) (s0 : Int × Bool) : Int × List UInt8 × Bool :=
  let y1 := rNum b 2 lt s0
  let y2 := rByt b y1.1 y1.2
  (y1.1, y2.1, y2.2.2)
theorem ansRr_ok (pre post : List UInt8) (lt : Bool) (x : List UInt8) (g1 : 0 ≤ (x.length : Int) ∧ (x.length : Int) ≤ 65535) (g2 : (x.length : Int) = (x.length : Int)) : ansRr (pre ++ (ansF lt x ++ post)) lt (pre.length, false) = ((x.length : Int), x, false) := by
  obtain ⟨b, hb⟩ : ∃ b, b = pre ++ (ansF lt x ++ post) := ⟨_, rfl⟩
  obtain ⟨B1, hc1⟩ : ∃ B, B = numB (x.length : Int) 2 lt := ⟨_, rfl⟩
  have hl1 : B1.length = 2 := by rw [hc1]; simp only [prinB_length, numB_length, textB_length]
  have q1 : b = pre ++ (B1 ++ (x ++ post)) := by rw [hb, hc1]; simp [ansF]
  have q2 : b = (pre ++ B1) ++ (x ++ post) := by rw [q1]; simp
  have r1 := rNum_num pre (x ++ post) (x.length : Int) 2 lt g1.1 (by omega)
  rw [← hc1, ← q1] at r1
  have r2 := rByt_at (pre ++ B1) x post (x.length : Int) g2
  have p2 : ((pre ++ B1).length : Int) = (pre.length : Int) + ((2 : Nat) : Int) := by simp only [List.length_append, List.length_singleton, hl1]; omega
  rw [← q2, p2] at r2
  rw [← hb]
  unfold ansRr
  simp only [r1, r2]
/-- These bytes are those of this message. -/
def ansIs (b : List UInt8) (lt : Bool) (x : List UInt8) : Prop := ansOk lt x ∧ ansB lt x = b
theorem ansIs.read {b : List UInt8} {lt : Bool} {x : List UInt8} (h : ansIs b lt x) : ansR b lt (2, false) = ((x.length : Int), x, false) := by
  obtain ⟨h1, rfl⟩ := h
  have hc := ansChk_ok (ansOk_chk h1)
  have c1 := hc
  have := ansR_ok (hdB 8 lt) ([]) lt x (⟨by omega, by omega⟩) (rfl)
  rw [List.append_nil, show ((hdB 8 lt).length : Int) = 2 from rfl] at this
  exact this
theorem ansIs.rread {b : List UInt8} {lt : Bool} {x : List UInt8} (h : ansIs b lt x) : ansRr b lt (2, false) = ((x.length : Int), x, false) := by
  obtain ⟨h1, rfl⟩ := h
  have hc := ansChk_ok (ansOk_chk h1)
  have c1 := hc
  have := ansRr_ok (hdB 8 lt) ([]) lt x (⟨by omega, by omega⟩) (rfl)
  rw [List.append_nil, show ((hdB 8 lt).length : Int) = 2 from rfl] at this
  exact this
theorem ansIs.hd {b : List UInt8} {lt : Bool} {x : List UInt8} (h : ansIs b lt x) : hdIs b [8] = (lt, 0) := by
  obtain ⟨_, rfl⟩ := h
  unfold ansB
  exact (hdIs_put (by decide) _ _).trans (if_pos (by decide))
theorem ansIs.inj {b : List UInt8} {lt : Bool} {x : List UInt8} {lt' : Bool} {x' : List UInt8} (h : ansIs b lt x) (h' : ansIs b lt' x') : lt = lt' ∧ x = x' := by
  have e := h.hd.symm.trans h'.hd
  simp only [Prod.mk.injEq, and_true] at e
  subst e
  have := h.read.symm.trans h'.read
  simp only [Prod.mk.injEq] at this
  obtain ⟨a0, a1, _⟩ := this
  exact ⟨rfl, a1⟩
def ansZ : AV := .lst 1 []
def ansErr (b : List UInt8) : Int := if (hdIs b [8]).2 = 0 then 100 else (hdIs b [8]).2
/-- What the decoder answers. -/
def ansDec (b : List UInt8) (d : AV) : Prop :=
  (∃ lt x, ansIs b lt x ∧ d = .tup [ansA lt x, .raw (.bool lt), .raw (.int .i64 0)]) ∨
  ((∀ lt x, ¬ ansIs b lt x) ∧ d = .tup [ansZ, .raw (.bool false), .raw (.int .i64 (ansErr b))])
theorem ansDec.unique {b : List UInt8} {d d' : AV} (h : ansDec b d) (h' : ansDec b d') : d = d' := by
  rcases h with ⟨lt, x, h1, rfl⟩ | ⟨h1, rfl⟩
  · rcases h' with ⟨lt', x', h2, rfl⟩ | ⟨h2, rfl⟩
    · obtain ⟨rfl, rfl⟩ := h1.inj h2
      rfl
    · exact absurd h1 (h2 _ _)
  · rcases h' with ⟨lt', x', h2, rfl⟩ | ⟨h2, rfl⟩
    · exact absurd h2 (h1 _ _)
    · rfl
theorem ansDec.of {b : List UInt8} {lt : Bool} {x : List UInt8} {d : AV} (h : ansDec b d) (h1 : ansIs b lt x) : d = .tup [ansA lt x, .raw (.bool lt), .raw (.int .i64 0)] := h.unique (.inl ⟨_, _, h1, rfl⟩)
theorem rPutShort_own (b : List UInt8) (n : Int) (little : Bool) (hn : b.length ≤ 140737488355000) (own : Own) (K : AV → Own → Prop) (h : RowK 5 1 (b ++ numB n 2 little).length ((b ++ numB n 2 little).map byteA) own K) :
    AC Tryz.prog 65 [.lst 1 (b.map byteA), .raw (.int .i64 n), .raw (.bool little)] own K := by
  have h2 := h.2
  simp only [List.length_append, numB_length] at h2
  refine AC.of_body (M := []) Tryz.func65 rfl (by kernel_rfl) (Nat.le_of_ble_eq_true rfl) ?_; simp only [Tryz.results65, Tryz.ntmps65]
  simp (dsimp := false) only [go_sem, ↓reduceIte, Nat.reduceEqDiff, Nat.reduceLT, Nat.reduceAdd, Nat.reduceSub, Nat.reduceMul, Nat.reduceLeDiff, reduceCtorEq, Int.reduceNeg, Int.reduceToNat, Int.reduceLT, Int.reduceLE, Int.reduceGE, Int.reduceGT, Int.reduceEq]
  have hp := rput_own b n 2 little (by omega) (by omega) hn own
  rw [show ((2 : Nat) : Int) = 2 from rfl] at hp
  refine ACs.of (hp _ fun k c hk hc => ?_)
  simp (dsimp := false) only [go_sem, ↓reduceIte, Nat.reduceEqDiff, Nat.reduceLT, Nat.reduceAdd, Nat.reduceSub, Nat.reduceMul, Nat.reduceLeDiff, reduceCtorEq, Int.reduceNeg, Int.reduceToNat, Int.reduceLT, Int.reduceLE, Int.reduceGE, Int.reduceGT, Int.reduceEq]
  have := h2 k c hk hc
  simpa using this
set_option maxHeartbeats 8000000 in
theorem ansEncode_pure (lt : Bool) (x : List UInt8) (zx : x.length ≤ 100000) :
    PC Tryz.prog 106 [ansA lt x, .raw (.bool lt)] (ansE lt x) := by
  refine PC.post ?_
  obtain ⟨b0, e0⟩ : ∃ b, b = hdB 8 lt := ⟨_, rfl⟩
  have l0 : b0.length = 2 := by rw [e0]; rfl
  obtain ⟨b1, e1⟩ : ∃ b, b0 ++ numB (x.length : Int) 2 lt = b := ⟨_, rfl⟩
  have l1 : b1.length = b0.length + 2 := by rw [← e1, List.length_append] <;> first | rfl | simp only [prinB_length, numB_length, textB_length]
  obtain ⟨b2, e2⟩ : ∃ b, b1 ++ x = b := ⟨_, rfl⟩
  have l2 : b2.length = b1.length + x.length := by rw [← e2, List.length_append] <;> first | rfl | simp only [prinB_length, numB_length, textB_length]
  have hfin : ansB lt x = b2 := by rw [ansB, ansF, ← e2, ← e1, e0]; simp only [List.append_assoc]
  have p1 := PutShort_pure b0 (x.length : Int) lt (by omega)
  rw [e1] at p1
  have pH := hdPut_pure 8 lt (by decide)
  rw [← e0] at pH
  unfold ansA
  refine AC.of_body (M := []) Tryz.func106 rfl (by kernel_rfl) (Nat.le_of_ble_eq_true rfl) ?_; simp only [Tryz.results106, Tryz.ntmps106]
  simp (dsimp := false) only [go_sem, ↓reduceIte, Nat.reduceEqDiff, Nat.reduceLT, Nat.reduceAdd, Nat.reduceSub, Nat.reduceMul, Nat.reduceLeDiff, reduceCtorEq, Int.reduceNeg, Int.reduceToNat, Int.reduceLT, Int.reduceLE, Int.reduceGE, Int.reduceGT, Int.reduceEq]
  by_cases h0_0 : (x.length : Int) > 1012
  · simp (dsimp := false) only [go_sem, ↓reduceIte, Nat.reduceEqDiff, Nat.reduceLT, Nat.reduceAdd, Nat.reduceSub, Nat.reduceMul, Nat.reduceLeDiff, reduceCtorEq, Int.reduceNeg, Int.reduceToNat, Int.reduceLT, Int.reduceLE, Int.reduceGE, Int.reduceGT, Int.reduceEq, h0_0]
    have hC : ansChk lt x = 105 := by rw [ansChk, if_pos (by first | omega | (simp [h0_0]; done))]
    refine ⟨noOwn, ?_⟩
    rw [ansE, hC, if_neg (by decide)]
    exact Weak1.nil2
  · simp (dsimp := false) only [go_sem, ↓reduceIte, Nat.reduceEqDiff, Nat.reduceLT, Nat.reduceAdd, Nat.reduceSub, Nat.reduceMul, Nat.reduceLeDiff, reduceCtorEq, Int.reduceNeg, Int.reduceToNat, Int.reduceLT, Int.reduceLE, Int.reduceGE, Int.reduceGT, Int.reduceEq, h0_0]
    have hC : ansChk lt x = 0 := by rw [ansChk, if_neg (by omega)]
    (try refine AW.draw (M := []) [.v, .e, .v, .v, .v, .e, .v, .e, .v, .v] mixed (by kernel_rfl) ?_)
    (try simp (dsimp := false) only [go_sem, ↓reduceIte, Nat.reduceEqDiff, Nat.reduceLT, Nat.reduceAdd, Nat.reduceSub, Nat.reduceMul, Nat.reduceLeDiff, reduceCtorEq, Int.reduceNeg, Int.reduceToNat, Int.reduceLT, Int.reduceLE, Int.reduceGE, Int.reduceGT, Int.reduceEq])
    refine ACs.pure pH ?_
    (try simp (dsimp := false) only [go_sem, ↓reduceIte, Nat.reduceEqDiff, Nat.reduceLT, Nat.reduceAdd, Nat.reduceSub, Nat.reduceMul, Nat.reduceLeDiff, reduceCtorEq, Int.reduceNeg, Int.reduceToNat, Int.reduceLT, Int.reduceLE, Int.reduceGE, Int.reduceGT, Int.reduceEq])
    refine ACs.of (PutShort_own b0 (x.length : Int) lt (by omega) _ _ ⟨fun h0 => absurd h0 (by rw [e1]; omega), fun k1 c1 hk1 hc1 => ?_⟩)
    rw [e1] at hc1
    simp only [e1]
    (try simp (dsimp := false) only [go_sem, ↓reduceIte, Nat.reduceEqDiff, Nat.reduceLT, Nat.reduceAdd, Nat.reduceSub, Nat.reduceMul, Nat.reduceLeDiff, reduceCtorEq, Int.reduceNeg, Int.reduceToNat, Int.reduceLT, Int.reduceLE, Int.reduceGE, Int.reduceGT, Int.reduceEq])
    (try refine AW.draw (M := []) [.v, .e, .v, .v, .v, .e, .v, .e, .v, .v] mixed (by kernel_rfl) ?_)
    have hcs : b1.map byteA ++ x.map byteA = b2.map byteA := by rw [← e2, List.map_append]
    simp (dsimp := false) only [go_sem, ↓reduceIte, Nat.reduceEqDiff, Nat.reduceLT, Nat.reduceAdd, Nat.reduceSub, Nat.reduceMul, Nat.reduceLeDiff, reduceCtorEq, Int.reduceNeg, Int.reduceToNat, Int.reduceLT, Int.reduceLE, Int.reduceGE, Int.reduceGT, Int.reduceEq, flat_byte, hcs]
    refine ⟨okA_bytes x, by omega, by omega, fun k2 c2 hk2 hc2 => ?_⟩
    have hm1 := fun o o' => Own.set_move hk1 k2 o o'
    rw [hm1]
    rw [ansE, hC, if_pos rfl, hfin]
    exact ⟨_, Weak1.tup (Weak.one (pre := []) (rowW _ k2 c2 c2 _ b2 [] (by rw [List.append_nil]; exact Own.set_same _ _ _) (by omega) (by omega) (by omega)))⟩
set_option maxHeartbeats 8000000 in
theorem ransEncode_pure (lt : Bool) (x : List UInt8) (zx : x.length ≤ 100000) :
    PC Tryz.prog 32 [ansA lt x, .raw (.bool lt)] (ansE lt x) := by
  refine PC.post ?_
  obtain ⟨b0, e0⟩ : ∃ b, b = hdB 8 lt := ⟨_, rfl⟩
  have l0 : b0.length = 2 := by rw [e0]; rfl
  obtain ⟨b1, e1⟩ : ∃ b, b0 ++ numB (x.length : Int) 2 lt = b := ⟨_, rfl⟩
  have l1 : b1.length = b0.length + 2 := by rw [← e1, List.length_append] <;> first | rfl | simp only [prinB_length, numB_length, textB_length]
  obtain ⟨b2, e2⟩ : ∃ b, b1 ++ x = b := ⟨_, rfl⟩
  have l2 : b2.length = b1.length + x.length := by rw [← e2, List.length_append] <;> first | rfl | simp only [prinB_length, numB_length, textB_length]
  have hfin : ansB lt x = b2 := by rw [ansB, ansF, ← e2, ← e1, e0]; simp only [List.append_assoc]
  have p1 := rPutShort_pure b0 (x.length : Int) lt (by omega)
  rw [e1] at p1
  have pH := rhdPut_pure 8 lt (by decide)
  rw [← e0] at pH
  unfold ansA
  refine AC.of_body (M := []) Tryz.func32 rfl (by kernel_rfl) (Nat.le_of_ble_eq_true rfl) ?_; simp only [Tryz.results32, Tryz.ntmps32]
  simp (dsimp := false) only [go_sem, ↓reduceIte, Nat.reduceEqDiff, Nat.reduceLT, Nat.reduceAdd, Nat.reduceSub, Nat.reduceMul, Nat.reduceLeDiff, reduceCtorEq, Int.reduceNeg, Int.reduceToNat, Int.reduceLT, Int.reduceLE, Int.reduceGE, Int.reduceGT, Int.reduceEq]
  by_cases h0_0 : (x.length : Int) > 1012
  · simp (dsimp := false) only [go_sem, ↓reduceIte, Nat.reduceEqDiff, Nat.reduceLT, Nat.reduceAdd, Nat.reduceSub, Nat.reduceMul, Nat.reduceLeDiff, reduceCtorEq, Int.reduceNeg, Int.reduceToNat, Int.reduceLT, Int.reduceLE, Int.reduceGE, Int.reduceGT, Int.reduceEq, h0_0]
    have hC : ansChk lt x = 105 := by rw [ansChk, if_pos (by first | omega | (simp [h0_0]; done))]
    refine ⟨noOwn, ?_⟩
    rw [ansE, hC, if_neg (by decide)]
    exact Weak1.nil2
  · simp (dsimp := false) only [go_sem, ↓reduceIte, Nat.reduceEqDiff, Nat.reduceLT, Nat.reduceAdd, Nat.reduceSub, Nat.reduceMul, Nat.reduceLeDiff, reduceCtorEq, Int.reduceNeg, Int.reduceToNat, Int.reduceLT, Int.reduceLE, Int.reduceGE, Int.reduceGT, Int.reduceEq, h0_0]
    have hC : ansChk lt x = 0 := by rw [ansChk, if_neg (by omega)]
    (try refine AW.draw (M := []) [.v, .e, .v, .v, .v, .e, .v] mixed (by kernel_rfl) ?_)
    (try simp (dsimp := false) only [go_sem, ↓reduceIte, Nat.reduceEqDiff, Nat.reduceLT, Nat.reduceAdd, Nat.reduceSub, Nat.reduceMul, Nat.reduceLeDiff, reduceCtorEq, Int.reduceNeg, Int.reduceToNat, Int.reduceLT, Int.reduceLE, Int.reduceGE, Int.reduceGT, Int.reduceEq])
    refine ACs.pure pH ?_
    (try simp (dsimp := false) only [go_sem, ↓reduceIte, Nat.reduceEqDiff, Nat.reduceLT, Nat.reduceAdd, Nat.reduceSub, Nat.reduceMul, Nat.reduceLeDiff, reduceCtorEq, Int.reduceNeg, Int.reduceToNat, Int.reduceLT, Int.reduceLE, Int.reduceGE, Int.reduceGT, Int.reduceEq])
    refine ACs.of (rPutShort_own b0 (x.length : Int) lt (by omega) _ _ ⟨fun h0 => absurd h0 (by rw [e1]; omega), fun k1 c1 hk1 hc1 => ?_⟩)
    rw [e1] at hc1
    simp only [e1]
    (try simp (dsimp := false) only [go_sem, ↓reduceIte, Nat.reduceEqDiff, Nat.reduceLT, Nat.reduceAdd, Nat.reduceSub, Nat.reduceMul, Nat.reduceLeDiff, reduceCtorEq, Int.reduceNeg, Int.reduceToNat, Int.reduceLT, Int.reduceLE, Int.reduceGE, Int.reduceGT, Int.reduceEq])
    (try refine AW.draw (M := []) [.v, .v, .e, .v, .v] mixed (by kernel_rfl) ?_)
    have hcs : b1.map byteA ++ x.map byteA = b2.map byteA := by rw [← e2, List.map_append]
    simp (dsimp := false) only [go_sem, ↓reduceIte, Nat.reduceEqDiff, Nat.reduceLT, Nat.reduceAdd, Nat.reduceSub, Nat.reduceMul, Nat.reduceLeDiff, reduceCtorEq, Int.reduceNeg, Int.reduceToNat, Int.reduceLT, Int.reduceLE, Int.reduceGE, Int.reduceGT, Int.reduceEq, flat_byte, hcs]
    refine ⟨okA_bytes x, by omega, by omega, fun k2 c2 hk2 hc2 => ?_⟩
    have hm1 := fun o o' => Own.set_move hk1 k2 o o'
    rw [hm1]
    rw [ansE, hC, if_pos rfl, hfin]
    exact ⟨_, Weak1.tup (Weak.one (pre := []) (rowW _ k2 c2 c2 _ b2 [] (by rw [List.append_nil]; exact Own.set_same _ _ _) (by omega) (by omega) (by omega)))⟩
end Go.Proofs.YtghnigbihllnmaaGreat.Fn
