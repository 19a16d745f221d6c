/- Which principals are valid. -/
import Derived.Test.YtghnigbihllnmaaGreatHlC
import Derived.Test.YtghnigbihllnmaaGreatSp1
import Derived.Test.YtghnigbihllnmaaGreatTy
import Derived.Test.YtghnigbihllnmaaGreatFn2
import Derived.Test.YtghnigbihllnmaaGreatFn3
set_option linter.unusedVariables false
set_option linter.unusedSimpArgs false
namespace Go.Proofs.YtghnigbihllnmaaGreat.Fn
open Go Hl Sp Ty

set_option maxRecDepth 100000 in
theorem bytealgS_pure (s : ByteArray) (c : UInt8) : PC Tryz.prog 188 [.raw (.string s), byteA c] (.raw (.int .i64 (Lib.indexByte s.data.toList c))) := by
  refine PC.extern (e := Extern.BytealgIndexByte.indexByte) Tryz.func188 (by kernel_rfl) (by kernel_rfl) (by kernel_rfl) (by kernel_rfl) fun w F vs hwf hr => ?_
  simp only [Reps] at hr
  obtain ⟨x, xs, rfl, hx, y, ys, rfl, hy, rfl⟩ := hr
  simp only [byteA, Rep] at hx hy
  rw [hx.1, hy.1]
  refine ⟨_, ?_, by simp [Rep, Value.oneCell']; rfl⟩
  have := Lib.run_indexByteString (P := Tryz.prog) s (c.toNat : Int) w
  simpa using this
set_option maxRecDepth 100000 in
theorem sliteIndexByte_pure (s : ByteArray) (c : UInt8) : PC Tryz.prog 178 [.raw (.string s), byteA c] (.raw (.int .i64 (Lib.indexByte s.data.toList c))) := by
  refine PC.of_ac ?_
  refine AC.of_body (M := []) Tryz.func178 rfl (by kernel_rfl) (Nat.le_of_ble_eq_true rfl) ?_; simp only [Tryz.results178, Tryz.ntmps178]
  simp (dsimp := false) only [go_sem, ↓reduceIte, Nat.reduceEqDiff, Nat.reduceLT, Nat.reduceAdd, Nat.reduceSub, Nat.reduceMul, Nat.reduceLeDiff, reduceCtorEq, Int.reduceNeg, Int.reduceToNat, Int.reduceLT, Int.reduceLE, Int.reduceGE, Int.reduceGT, Int.reduceEq]
  exact ACs.pure (bytealgS_pure s c) (by simp (dsimp := false) only [go_sem, ↓reduceIte, Nat.reduceEqDiff, Nat.reduceLT, Nat.reduceAdd, Nat.reduceSub, Nat.reduceMul, Nat.reduceLeDiff, reduceCtorEq, Int.reduceNeg, Int.reduceToNat, Int.reduceLT, Int.reduceLE, Int.reduceGE, Int.reduceGT, Int.reduceEq])
set_option maxRecDepth 100000 in
theorem stringsIndexByte_pure (s : ByteArray) (c : UInt8) : PC Tryz.prog 156 [.raw (.string s), byteA c] (.raw (.int .i64 (Lib.indexByte s.data.toList c))) := by
  refine PC.of_ac ?_
  refine AC.of_body (M := []) Tryz.func156 rfl (by kernel_rfl) (Nat.le_of_ble_eq_true rfl) ?_; simp only [Tryz.results156, Tryz.ntmps156]
  simp (dsimp := false) only [go_sem, ↓reduceIte, Nat.reduceEqDiff, Nat.reduceLT, Nat.reduceAdd, Nat.reduceSub, Nat.reduceMul, Nat.reduceLeDiff, reduceCtorEq, Int.reduceNeg, Int.reduceToNat, Int.reduceLT, Int.reduceLE, Int.reduceGE, Int.reduceGT, Int.reduceEq]
  exact ACs.pure (sliteIndexByte_pure s c) (by simp (dsimp := false) only [go_sem, ↓reduceIte, Nat.reduceEqDiff, Nat.reduceLT, Nat.reduceAdd, Nat.reduceSub, Nat.reduceMul, Nat.reduceLeDiff, reduceCtorEq, Int.reduceNeg, Int.reduceToNat, Int.reduceLT, Int.reduceLE, Int.reduceGE, Int.reduceGT, Int.reduceEq])

/-- A byte that a name may hold, the bytes of 'bad' aside. -/
def okB (bad : List UInt8) (c : UInt8) : Bool := decide (33 ≤ c.toNat) && decide (c.toNat ≤ 126) && !bad.contains c
def printB (s bad : List UInt8) : Bool := s.all (okB bad) && decide (s.length ≤ 39)
theorem ib_neg (l : List UInt8) (c : UInt8) : 0 ≤ Lib.indexByte l c ↔ l.contains c = true := by
  induction l with
  | nil => simp [Lib.indexByte]
  | cons b l ih =>
    have hl := indexByte_le l c
    unfold Lib.indexByte
    by_cases hb : (b == c) = true
    · rw [if_pos hb]
      have : b = c := by simpa using hb
      subst this
      simp
    · have e : (b :: l).contains c = l.contains c := by
        have hne : (c == b) = false := by
          cases h : c == b
          · rfl
          · exact absurd (by have : c = b := by simpa using h
                             simp [this]) hb
        rw [List.contains_cons, hne, Bool.false_or]
      rw [if_neg hb, e, ← ih]
      by_cases h2 : (Lib.indexByte l c == -1) = true
      · rw [if_pos h2]
        have : Lib.indexByte l c = -1 := by simpa using h2
        omega
      · rw [if_neg h2]
        have : Lib.indexByte l c ≠ -1 := by simpa using h2
        omega
theorem printB_false {s bad : List UInt8} {i : Nat} (hi : i < s.length) (h : okB bad (s.getD i 0) = false) : printB s bad = false := by
  unfold printB
  have : s.all (okB bad) = false := by
    rw [List.all_eq_false]
    refine ⟨s[i], List.getElem_mem hi, ?_⟩
    rw [List.getD_eq_getElem?_getD, List.getElem?_eq_getElem hi] at h
    simpa using h
  rw [this, Bool.false_and]

set_option maxRecDepth 100000 in
set_option maxHeartbeats 4000000 in
theorem printable_pure (s bad : ByteArray) (hs : s.size ≤ 9223372036854775807) : PC Tryz.prog 168 [.raw (.string s), .raw (.string bad)] (.raw (.bool (printB s.data.toList bad.data.toList))) := by
  have hz := size_eq s
  refine PC.of_ac ?_
  refine AC.of_body (M := []) Tryz.func168 rfl (by kernel_rfl) (Nat.le_of_ble_eq_true rfl) ?_; simp only [Tryz.results168, Tryz.ntmps168]
  simp (dsimp := false) only [go_sem, ↓reduceIte, Nat.reduceEqDiff, Nat.reduceLT, Nat.reduceAdd, Nat.reduceSub, Nat.reduceMul, Nat.reduceLeDiff, reduceCtorEq, Int.reduceNeg, Int.reduceToNat, Int.reduceLT, Int.reduceLE, Int.reduceGE, Int.reduceGT, Int.reduceEq]
  refine AW.loopJ (M := []) (X := Nat) (fun i => ⟨33, tmL [(0, .raw (.string s)), (1, .raw (.string bad)), (7, .raw (.int .i64 s.size)), (8, .raw (.int .i64 i))], noOwn⟩)
    (fun i => i ≤ s.size ∧ (s.data.toList.take i).all (okB bad.data.toList) = true) (fun i => s.size - i) 0 ⟨by omega, by simp⟩ ?_ ?_
  · (refine Ghost.same ?_; (repeat' (first | exact all_nil | refine all_cons ?_ ?_)) <;> (first | (simp (dsimp := false) only [go_sem, ↓reduceIte, Nat.reduceEqDiff, Nat.reduceLT, Nat.reduceAdd, Nat.reduceSub, Nat.reduceMul, Nat.reduceLeDiff, reduceCtorEq, Int.reduceNeg, Int.reduceToNat, Int.reduceLT, Int.reduceLE, Int.reduceGE, Int.reduceGT, Int.reduceEq]; done) | (simp (dsimp := false) only [go_sem, ↓reduceIte, Nat.reduceEqDiff, Nat.reduceLT, Nat.reduceAdd, Nat.reduceSub, Nat.reduceMul, Nat.reduceLeDiff, reduceCtorEq, Int.reduceNeg, Int.reduceToNat, Int.reduceLT, Int.reduceLE, Int.reduceGE, Int.reduceGT, Int.reduceEq]; rfl)))
  · rintro i ⟨hi, hall⟩
    by_cases h3 : (i : Int) < (s.size : Int)
    · have e2 : IntKind.i64.wrap ((i : Int) + 1) = ((i + 1 : Nat) : Int) := by rw [wrap_i64 (by omega) (by omega)]; omega
      have hgd : s.data.getD i 0 = s.data.toList.getD i 0 := by simp [List.getD_eq_getElem?_getD, Array.getD_eq_getD_getElem?]
      have htake : s.data.toList.take (i + 1) = s.data.toList.take i ++ [s.data.toList.getD i 0] := by
        rw [List.take_add_one]
        simp [List.getD_eq_getElem?_getD, List.getElem?_eq_getElem (show i < s.data.toList.length by omega)]
      have hF := printB_false (s := s.data.toList) (bad := bad.data.toList) (i := i) (by omega)
      generalize hc : s.data.toList.getD i 0 = c at *
      have hlen : (s.data.toList.take i).length = i := by simp; omega
      by_cases h4 : (c.toNat : Int) < 33
      · have hP := hF (by unfold okB; rw [decide_eq_false (by omega)]; rfl)
        simp (dsimp := false) only [go_sem, ↓reduceIte, Nat.reduceEqDiff, Nat.reduceLT, Nat.reduceAdd, Nat.reduceSub, Nat.reduceMul, Nat.reduceLeDiff, reduceCtorEq, Int.reduceNeg, Int.reduceToNat, Int.reduceLT, Int.reduceLE, Int.reduceGE, Int.reduceGT, Int.reduceEq, h3, hgd, h4, hP]
        omega
      by_cases h5 : (c.toNat : Int) > 126
      · have hP := hF (by unfold okB; rw [decide_eq_false (p := c.toNat ≤ 126) (by omega)]; simp)
        simp (dsimp := false) only [go_sem, ↓reduceIte, Nat.reduceEqDiff, Nat.reduceLT, Nat.reduceAdd, Nat.reduceSub, Nat.reduceMul, Nat.reduceLeDiff, reduceCtorEq, Int.reduceNeg, Int.reduceToNat, Int.reduceLT, Int.reduceLE, Int.reduceGE, Int.reduceGT, Int.reduceEq, h3, hgd, h4, h5, hP]
        omega
      simp (dsimp := false) only [go_sem, ↓reduceIte, Nat.reduceEqDiff, Nat.reduceLT, Nat.reduceAdd, Nat.reduceSub, Nat.reduceMul, Nat.reduceLeDiff, reduceCtorEq, Int.reduceNeg, Int.reduceToNat, Int.reduceLT, Int.reduceLE, Int.reduceGE, Int.reduceGT, Int.reduceEq, h3, hgd, h4, h5]
      refine ⟨by omega, by omega, by omega, ?_⟩
      refine ACs.pure (stringsIndexByte_pure bad c) ?_
      by_cases h6 : Lib.indexByte bad.data.toList c ≥ 0
      · have hP := hF (by unfold okB; rw [(ib_neg _ _).1 h6]; simp)
        simp (dsimp := false) only [go_sem, ↓reduceIte, Nat.reduceEqDiff, Nat.reduceLT, Nat.reduceAdd, Nat.reduceSub, Nat.reduceMul, Nat.reduceLeDiff, reduceCtorEq, Int.reduceNeg, Int.reduceToNat, Int.reduceLT, Int.reduceLE, Int.reduceGE, Int.reduceGT, Int.reduceEq, h6, hP]
      · simp (dsimp := false) only [go_sem, ↓reduceIte, Nat.reduceEqDiff, Nat.reduceLT, Nat.reduceAdd, Nat.reduceSub, Nat.reduceMul, Nat.reduceLeDiff, reduceCtorEq, Int.reduceNeg, Int.reduceToNat, Int.reduceLT, Int.reduceLE, Int.reduceGE, Int.reduceGT, Int.reduceEq, h6, e2]
        have h6' : bad.data.toList.contains c = false := by
          cases h : bad.data.toList.contains c
          · rfl
          · exact absurd ((ib_neg _ _).2 h) h6
        refine ⟨i + 1, ⟨by omega, ?_⟩, ?_, by omega⟩
        · rw [htake, List.all_append, hall]
          simp only [List.all_cons, List.all_nil, Bool.and_true, Bool.true_and, okB, h6', Bool.not_false]
          rw [decide_eq_true (by omega), decide_eq_true (by omega)]
          rfl
        · (refine Ghost.same ?_; (repeat' (first | exact all_nil | refine all_cons ?_ ?_)) <;> (first | (simp (dsimp := false) only [go_sem, ↓reduceIte, Nat.reduceEqDiff, Nat.reduceLT, Nat.reduceAdd, Nat.reduceSub, Nat.reduceMul, Nat.reduceLeDiff, reduceCtorEq, Int.reduceNeg, Int.reduceToNat, Int.reduceLT, Int.reduceLE, Int.reduceGE, Int.reduceGT, Int.reduceEq]; done) | (simp (dsimp := false) only [go_sem, ↓reduceIte, Nat.reduceEqDiff, Nat.reduceLT, Nat.reduceAdd, Nat.reduceSub, Nat.reduceMul, Nat.reduceLeDiff, reduceCtorEq, Int.reduceNeg, Int.reduceToNat, Int.reduceLT, Int.reduceLE, Int.reduceGE, Int.reduceGT, Int.reduceEq]; rfl)))
    · simp (dsimp := false) only [go_sem, ↓reduceIte, Nat.reduceEqDiff, Nat.reduceLT, Nat.reduceAdd, Nat.reduceSub, Nat.reduceMul, Nat.reduceLeDiff, reduceCtorEq, Int.reduceNeg, Int.reduceToNat, Int.reduceLT, Int.reduceLE, Int.reduceGE, Int.reduceGT, Int.reduceEq, h3]
      rw [List.take_of_length_le (by omega)] at hall
      unfold printB
      rw [hall, Bool.true_and]
      congr 1
      apply propext
      omega

set_option maxRecDepth 100000 in
set_option maxHeartbeats 4000000 in
theorem rtext_pure (s bad : ByteArray) (hs : s.size ≤ 9223372036854775807) (hb : bad.size ≤ 9223372036854775807) : PC Tryz.prog 124 [.raw (.string s), .raw (.string bad)] (.raw (.bool (printB s.data.toList bad.data.toList))) := by
  have hz := size_eq s
  have hzb := size_eq bad
  refine PC.of_ac ?_
  refine AC.of_body (M := []) Tryz.func124 rfl (by kernel_rfl) (Nat.le_of_ble_eq_true rfl) ?_; simp only [Tryz.results124, Tryz.ntmps124]
  simp (dsimp := false) only [go_sem, ↓reduceIte, Nat.reduceEqDiff, Nat.reduceLT, Nat.reduceAdd, Nat.reduceSub, Nat.reduceMul, Nat.reduceLeDiff, reduceCtorEq, Int.reduceNeg, Int.reduceToNat, Int.reduceLT, Int.reduceLE, Int.reduceGE, Int.reduceGT, Int.reduceEq]
  refine AW.loopJ (M := []) (X := Nat) (fun i => ⟨39, tmL [(0, .raw (.string s)), (1, .raw (.string bad)), (5, .raw (.int .i64 i))], noOwn⟩)
    (fun i => i ≤ s.size ∧ (s.data.toList.take i).all (okB bad.data.toList) = true) (fun i => s.size - i) 0 ⟨by omega, by simp⟩ ?_ ?_
  · (refine Ghost.same ?_; (repeat' (first | exact all_nil | refine all_cons ?_ ?_)) <;> (first | (simp (dsimp := false) only [go_sem, ↓reduceIte, Nat.reduceEqDiff, Nat.reduceLT, Nat.reduceAdd, Nat.reduceSub, Nat.reduceMul, Nat.reduceLeDiff, reduceCtorEq, Int.reduceNeg, Int.reduceToNat, Int.reduceLT, Int.reduceLE, Int.reduceGE, Int.reduceGT, Int.reduceEq]; done) | (simp (dsimp := false) only [go_sem, ↓reduceIte, Nat.reduceEqDiff, Nat.reduceLT, Nat.reduceAdd, Nat.reduceSub, Nat.reduceMul, Nat.reduceLeDiff, reduceCtorEq, Int.reduceNeg, Int.reduceToNat, Int.reduceLT, Int.reduceLE, Int.reduceGE, Int.reduceGT, Int.reduceEq]; rfl)))
  · rintro i ⟨hi, hall⟩
    by_cases h3 : (i : Int) < (s.size : Int)
    · have e2 : IntKind.i64.wrap ((i : Int) + 1) = ((i + 1 : Nat) : Int) := by rw [wrap_i64 (by omega) (by omega)]; omega
      have hgd : s.data.getD i 0 = s.data.toList.getD i 0 := by simp [List.getD_eq_getElem?_getD, Array.getD_eq_getD_getElem?]
      have htake : s.data.toList.take (i + 1) = s.data.toList.take i ++ [s.data.toList.getD i 0] := by
        rw [List.take_add_one]
        simp [List.getD_eq_getElem?_getD, List.getElem?_eq_getElem (show i < s.data.toList.length by omega)]
      have hF := printB_false (s := s.data.toList) (bad := bad.data.toList) (i := i) (by omega)
      generalize hc : s.data.toList.getD i 0 = c at *
      by_cases h4 : (c.toNat : Int) < 33
      · have hP := hF (by unfold okB; rw [decide_eq_false (by omega)]; rfl)
        simp (dsimp := false) only [go_sem, ↓reduceIte, Nat.reduceEqDiff, Nat.reduceLT, Nat.reduceAdd, Nat.reduceSub, Nat.reduceMul, Nat.reduceLeDiff, reduceCtorEq, Int.reduceNeg, Int.reduceToNat, Int.reduceLT, Int.reduceLE, Int.reduceGE, Int.reduceGT, Int.reduceEq, h3, hgd, h4, hP]
        omega
      by_cases h5 : (c.toNat : Int) > 126
      · have hP := hF (by unfold okB; rw [decide_eq_false (p := c.toNat ≤ 126) (by omega)]; simp)
        simp (dsimp := false) only [go_sem, ↓reduceIte, Nat.reduceEqDiff, Nat.reduceLT, Nat.reduceAdd, Nat.reduceSub, Nat.reduceMul, Nat.reduceLeDiff, reduceCtorEq, Int.reduceNeg, Int.reduceToNat, Int.reduceLT, Int.reduceLE, Int.reduceGE, Int.reduceGT, Int.reduceEq, h3, hgd, h4, h5, hP]
        omega
      simp (dsimp := false) only [go_sem, ↓reduceIte, Nat.reduceEqDiff, Nat.reduceLT, Nat.reduceAdd, Nat.reduceSub, Nat.reduceMul, Nat.reduceLeDiff, reduceCtorEq, Int.reduceNeg, Int.reduceToNat, Int.reduceLT, Int.reduceLE, Int.reduceGE, Int.reduceGT, Int.reduceEq, h3, hgd, h4, h5]
      refine ⟨by omega, by omega, ?_⟩
      refine AW.loopJ (M := []) (X := Nat) (fun j => ⟨39, tmL [(0, .raw (.string s)), (1, .raw (.string bad)), (5, .raw (.int .i64 i)), (6, .raw (.int .i64 j))], noOwn⟩)
        (fun j => j ≤ bad.size ∧ (bad.data.toList.take j).contains c = false) (fun j => bad.size - j) 0 ⟨by omega, by simp⟩ ?_ ?_
      · (refine Ghost.same ?_; (repeat' (first | exact all_nil | refine all_cons ?_ ?_)) <;> (first | (simp (dsimp := false) only [go_sem, ↓reduceIte, Nat.reduceEqDiff, Nat.reduceLT, Nat.reduceAdd, Nat.reduceSub, Nat.reduceMul, Nat.reduceLeDiff, reduceCtorEq, Int.reduceNeg, Int.reduceToNat, Int.reduceLT, Int.reduceLE, Int.reduceGE, Int.reduceGT, Int.reduceEq]; done) | (simp (dsimp := false) only [go_sem, ↓reduceIte, Nat.reduceEqDiff, Nat.reduceLT, Nat.reduceAdd, Nat.reduceSub, Nat.reduceMul, Nat.reduceLeDiff, reduceCtorEq, Int.reduceNeg, Int.reduceToNat, Int.reduceLT, Int.reduceLE, Int.reduceGE, Int.reduceGT, Int.reduceEq]; rfl)))
      · rintro j ⟨hj, hcon⟩
        by_cases h6 : (j : Int) < (bad.size : Int)
        · have e3 : IntKind.i64.wrap ((j : Int) + 1) = ((j + 1 : Nat) : Int) := by rw [wrap_i64 (by omega) (by omega)]; omega
          have hgj : bad.data.getD j 0 = bad.data.toList.getD j 0 := by simp [List.getD_eq_getElem?_getD, Array.getD_eq_getD_getElem?]
          simp (dsimp := false) only [go_sem, ↓reduceIte, Nat.reduceEqDiff, Nat.reduceLT, Nat.reduceAdd, Nat.reduceSub, Nat.reduceMul, Nat.reduceLeDiff, reduceCtorEq, Int.reduceNeg, Int.reduceToNat, Int.reduceLT, Int.reduceLE, Int.reduceGE, Int.reduceGT, Int.reduceEq, h6]
          refine AW.draw (M := []) [.v, .v, .v, .v, .v, .v, .v] mixed (by kernel_rfl) ?_
          by_cases h7 : (c.toNat : Int) = ((bad.data.toList.getD j 0).toNat : Int)
          · have hcm : bad.data.toList.contains c = true := by
              have : c = bad.data.toList.getD j 0 := by apply UInt8.toNat_inj.1; omega
              rw [List.contains_iff_mem, this, List.getD_eq_getElem?_getD, List.getElem?_eq_getElem (show j < bad.data.toList.length by omega)]
              exact List.getElem_mem _
            have hP := hF (by unfold okB; rw [hcm]; simp)
            simp (dsimp := false) only [go_sem, ↓reduceIte, Nat.reduceEqDiff, Nat.reduceLT, Nat.reduceAdd, Nat.reduceSub, Nat.reduceMul, Nat.reduceLeDiff, reduceCtorEq, Int.reduceNeg, Int.reduceToNat, Int.reduceLT, Int.reduceLE, Int.reduceGE, Int.reduceGT, Int.reduceEq, hgd, hgj, h7, hP]
            omega
          · simp (dsimp := false) only [go_sem, ↓reduceIte, Nat.reduceEqDiff, Nat.reduceLT, Nat.reduceAdd, Nat.reduceSub, Nat.reduceMul, Nat.reduceLeDiff, reduceCtorEq, Int.reduceNeg, Int.reduceToNat, Int.reduceLT, Int.reduceLE, Int.reduceGE, Int.reduceGT, Int.reduceEq, hgd, hgj, h7, e3]
            refine ⟨by omega, by omega, j + 1, ⟨by omega, ?_⟩, ?_, by omega⟩
            · rw [List.take_add_one, List.getElem?_eq_getElem (show j < bad.data.toList.length by omega)]
              have hne : ¬ c = bad.data.toList[j]'(by omega) := fun h => h7 (by rw [List.getD_eq_getElem?_getD, List.getElem?_eq_getElem (show j < bad.data.toList.length by omega), h]; rfl)
              rw [Option.toList_some]
              cases hx : List.contains (List.take j bad.data.toList ++ [bad.data.toList[j]'(by omega)]) c with
              | false => rfl
              | true =>
                rw [List.contains_iff_mem, List.mem_append, List.mem_singleton] at hx
                rcases hx with hx | hx
                · rw [List.contains_iff_mem.2 hx] at hcon; cases hcon
                · exact absurd hx hne
            · (refine Ghost.same ?_; (repeat' (first | exact all_nil | refine all_cons ?_ ?_)) <;> (first | (simp (dsimp := false) only [go_sem, ↓reduceIte, Nat.reduceEqDiff, Nat.reduceLT, Nat.reduceAdd, Nat.reduceSub, Nat.reduceMul, Nat.reduceLeDiff, reduceCtorEq, Int.reduceNeg, Int.reduceToNat, Int.reduceLT, Int.reduceLE, Int.reduceGE, Int.reduceGT, Int.reduceEq]; done) | (simp (dsimp := false) only [go_sem, ↓reduceIte, Nat.reduceEqDiff, Nat.reduceLT, Nat.reduceAdd, Nat.reduceSub, Nat.reduceMul, Nat.reduceLeDiff, reduceCtorEq, Int.reduceNeg, Int.reduceToNat, Int.reduceLT, Int.reduceLE, Int.reduceGE, Int.reduceGT, Int.reduceEq]; rfl)))
        · simp (dsimp := false) only [go_sem, ↓reduceIte, Nat.reduceEqDiff, Nat.reduceLT, Nat.reduceAdd, Nat.reduceSub, Nat.reduceMul, Nat.reduceLeDiff, reduceCtorEq, Int.reduceNeg, Int.reduceToNat, Int.reduceLT, Int.reduceLE, Int.reduceGE, Int.reduceGT, Int.reduceEq, h6, e2]
          rw [List.take_of_length_le (by omega)] at hcon
          refine ⟨i + 1, ⟨by omega, ?_⟩, ?_, by omega⟩
          · rw [htake, List.all_append, hall]
            simp only [List.all_cons, List.all_nil, Bool.and_true, Bool.true_and, okB, hcon, Bool.not_false]
            rw [decide_eq_true (by omega), decide_eq_true (by omega)]
            rfl
          · (refine Ghost.same ?_; (repeat' (first | exact all_nil | refine all_cons ?_ ?_)) <;> (first | (simp (dsimp := false) only [go_sem, ↓reduceIte, Nat.reduceEqDiff, Nat.reduceLT, Nat.reduceAdd, Nat.reduceSub, Nat.reduceMul, Nat.reduceLeDiff, reduceCtorEq, Int.reduceNeg, Int.reduceToNat, Int.reduceLT, Int.reduceLE, Int.reduceGE, Int.reduceGT, Int.reduceEq]; done) | (simp (dsimp := false) only [go_sem, ↓reduceIte, Nat.reduceEqDiff, Nat.reduceLT, Nat.reduceAdd, Nat.reduceSub, Nat.reduceMul, Nat.reduceLeDiff, reduceCtorEq, Int.reduceNeg, Int.reduceToNat, Int.reduceLT, Int.reduceLE, Int.reduceGE, Int.reduceGT, Int.reduceEq]; rfl)))
    · simp (dsimp := false) only [go_sem, ↓reduceIte, Nat.reduceEqDiff, Nat.reduceLT, Nat.reduceAdd, Nat.reduceSub, Nat.reduceMul, Nat.reduceLeDiff, reduceCtorEq, Int.reduceNeg, Int.reduceToNat, Int.reduceLT, Int.reduceLE, Int.reduceGE, Int.reduceGT, Int.reduceEq, h3]
      rw [List.take_of_length_le (by omega)] at hall
      unfold printB
      rw [hall, Bool.true_and]
      congr 1
      apply propext
      omega

/-- Which principals are valid. -/
def nameB (s : ByteArray) : Bool := !(s.data.toList == []) && printB s.data.toList [46, 64]
def instB (s : ByteArray) : Bool := printB s.data.toList [64]
def realmB (s : ByteArray) : Bool := !(s.data.toList == []) && printB s.data.toList [64]
def validB (n i r : ByteArray) : Bool := nameB n && instB i && realmB r
theorem empty_eq (s : ByteArray) : (s.toList == (ByteArray.mk #[]).toList) = (s.data.toList == []) := by
  rw [Lib.toList_data, Lib.toList_data]
set_option maxRecDepth 100000 in
theorem ValidName_pure (s : ByteArray) (hs : s.size ≤ 9223372036854775807) : PC Tryz.prog 116 [.raw (.string s)] (.raw (.bool (nameB s))) := by
  refine PC.of_ac ?_
  refine AC.of_body (M := []) Tryz.func116 rfl (by kernel_rfl) (Nat.le_of_ble_eq_true rfl) ?_; simp only [Tryz.results116, Tryz.ntmps116]
  have he := empty_eq s
  unfold nameB
  cases h : (s.data.toList == [])
  · rw [h] at he
    simp (dsimp := false) only [go_sem, ↓reduceIte, Nat.reduceEqDiff, Nat.reduceLT, Nat.reduceAdd, Nat.reduceSub, Nat.reduceMul, Nat.reduceLeDiff, reduceCtorEq, Int.reduceNeg, Int.reduceToNat, Int.reduceLT, Int.reduceLE, Int.reduceGE, Int.reduceGT, Int.reduceEq, he]
    exact ACs.pure (printable_pure s ⟨#[46, 64]⟩ hs) (by simp (dsimp := false) only [go_sem, ↓reduceIte, Nat.reduceEqDiff, Nat.reduceLT, Nat.reduceAdd, Nat.reduceSub, Nat.reduceMul, Nat.reduceLeDiff, reduceCtorEq, Int.reduceNeg, Int.reduceToNat, Int.reduceLT, Int.reduceLE, Int.reduceGE, Int.reduceGT, Int.reduceEq])
  · rw [h] at he
    simp (dsimp := false) only [go_sem, ↓reduceIte, Nat.reduceEqDiff, Nat.reduceLT, Nat.reduceAdd, Nat.reduceSub, Nat.reduceMul, Nat.reduceLeDiff, reduceCtorEq, Int.reduceNeg, Int.reduceToNat, Int.reduceLT, Int.reduceLE, Int.reduceGE, Int.reduceGT, Int.reduceEq, he]
    rfl
set_option maxRecDepth 100000 in
theorem ValidInstance_pure (s : ByteArray) (hs : s.size ≤ 9223372036854775807) : PC Tryz.prog 117 [.raw (.string s)] (.raw (.bool (instB s))) := by
  refine PC.of_ac ?_
  refine AC.of_body (M := []) Tryz.func117 rfl (by kernel_rfl) (Nat.le_of_ble_eq_true rfl) ?_; simp only [Tryz.results117, Tryz.ntmps117]
  simp (dsimp := false) only [go_sem, ↓reduceIte, Nat.reduceEqDiff, Nat.reduceLT, Nat.reduceAdd, Nat.reduceSub, Nat.reduceMul, Nat.reduceLeDiff, reduceCtorEq, Int.reduceNeg, Int.reduceToNat, Int.reduceLT, Int.reduceLE, Int.reduceGE, Int.reduceGT, Int.reduceEq]
  exact ACs.pure (printable_pure s ⟨#[64]⟩ hs) (by simp (dsimp := false) only [go_sem, ↓reduceIte, Nat.reduceEqDiff, Nat.reduceLT, Nat.reduceAdd, Nat.reduceSub, Nat.reduceMul, Nat.reduceLeDiff, reduceCtorEq, Int.reduceNeg, Int.reduceToNat, Int.reduceLT, Int.reduceLE, Int.reduceGE, Int.reduceGT, Int.reduceEq]; rfl)
set_option maxRecDepth 100000 in
theorem ValidRealm_pure (s : ByteArray) (hs : s.size ≤ 9223372036854775807) : PC Tryz.prog 158 [.raw (.string s)] (.raw (.bool (realmB s))) := by
  refine PC.of_ac ?_
  refine AC.of_body (M := []) Tryz.func158 rfl (by kernel_rfl) (Nat.le_of_ble_eq_true rfl) ?_; simp only [Tryz.results158, Tryz.ntmps158]
  have he := empty_eq s
  unfold realmB
  cases h : (s.data.toList == [])
  · rw [h] at he
    simp (dsimp := false) only [go_sem, ↓reduceIte, Nat.reduceEqDiff, Nat.reduceLT, Nat.reduceAdd, Nat.reduceSub, Nat.reduceMul, Nat.reduceLeDiff, reduceCtorEq, Int.reduceNeg, Int.reduceToNat, Int.reduceLT, Int.reduceLE, Int.reduceGE, Int.reduceGT, Int.reduceEq, he]
    exact ACs.pure (printable_pure s ⟨#[64]⟩ hs) (by simp (dsimp := false) only [go_sem, ↓reduceIte, Nat.reduceEqDiff, Nat.reduceLT, Nat.reduceAdd, Nat.reduceSub, Nat.reduceMul, Nat.reduceLeDiff, reduceCtorEq, Int.reduceNeg, Int.reduceToNat, Int.reduceLT, Int.reduceLE, Int.reduceGE, Int.reduceGT, Int.reduceEq])
  · rw [h] at he
    simp (dsimp := false) only [go_sem, ↓reduceIte, Nat.reduceEqDiff, Nat.reduceLT, Nat.reduceAdd, Nat.reduceSub, Nat.reduceMul, Nat.reduceLeDiff, reduceCtorEq, Int.reduceNeg, Int.reduceToNat, Int.reduceLT, Int.reduceLE, Int.reduceGE, Int.reduceGT, Int.reduceEq, he]
    rfl
theorem empty_size (s : ByteArray) : (s.data.toList == []) = !decide ((s.size : Int) > 0) := by
  have := size_eq s
  cases h : s.data.toList with
  | nil => rw [h] at this; simp at this; simp [this]
  | cons b l => rw [h] at this; simp at this; simp; omega
set_option maxRecDepth 100000 in
theorem rValidName_pure (s : ByteArray) (hs : s.size ≤ 9223372036854775807) : PC Tryz.prog 57 [.raw (.string s)] (.raw (.bool (nameB s))) := by
  refine PC.of_ac ?_
  refine AC.of_body (M := []) Tryz.func57 rfl (by kernel_rfl) (Nat.le_of_ble_eq_true rfl) ?_; simp only [Tryz.results57, Tryz.ntmps57]
  unfold nameB
  rw [empty_size s]
  by_cases h : (s.size : Int) > 0
  · simp (dsimp := false) only [go_sem, ↓reduceIte, Nat.reduceEqDiff, Nat.reduceLT, Nat.reduceAdd, Nat.reduceSub, Nat.reduceMul, Nat.reduceLeDiff, reduceCtorEq, Int.reduceNeg, Int.reduceToNat, Int.reduceLT, Int.reduceLE, Int.reduceGE, Int.reduceGT, Int.reduceEq, h]
    exact ACs.pure (rtext_pure s ⟨#[46, 64]⟩ hs (by decide)) (by simp (dsimp := false) only [go_sem, ↓reduceIte, Nat.reduceEqDiff, Nat.reduceLT, Nat.reduceAdd, Nat.reduceSub, Nat.reduceMul, Nat.reduceLeDiff, reduceCtorEq, Int.reduceNeg, Int.reduceToNat, Int.reduceLT, Int.reduceLE, Int.reduceGE, Int.reduceGT, Int.reduceEq]; (try rw [decide_eq_true h]); (try rfl))
  · simp (dsimp := false) only [go_sem, ↓reduceIte, Nat.reduceEqDiff, Nat.reduceLT, Nat.reduceAdd, Nat.reduceSub, Nat.reduceMul, Nat.reduceLeDiff, reduceCtorEq, Int.reduceNeg, Int.reduceToNat, Int.reduceLT, Int.reduceLE, Int.reduceGE, Int.reduceGT, Int.reduceEq, h]
    rfl
set_option maxRecDepth 100000 in
theorem rValidRealm_pure (s : ByteArray) (hs : s.size ≤ 9223372036854775807) : PC Tryz.prog 97 [.raw (.string s)] (.raw (.bool (realmB s))) := by
  refine PC.of_ac ?_
  refine AC.of_body (M := []) Tryz.func97 rfl (by kernel_rfl) (Nat.le_of_ble_eq_true rfl) ?_; simp only [Tryz.results97, Tryz.ntmps97]
  unfold realmB
  rw [empty_size s]
  by_cases h : (s.size : Int) > 0
  · simp (dsimp := false) only [go_sem, ↓reduceIte, Nat.reduceEqDiff, Nat.reduceLT, Nat.reduceAdd, Nat.reduceSub, Nat.reduceMul, Nat.reduceLeDiff, reduceCtorEq, Int.reduceNeg, Int.reduceToNat, Int.reduceLT, Int.reduceLE, Int.reduceGE, Int.reduceGT, Int.reduceEq, h]
    exact ACs.pure (rtext_pure s ⟨#[64]⟩ hs (by decide)) (by simp (dsimp := false) only [go_sem, ↓reduceIte, Nat.reduceEqDiff, Nat.reduceLT, Nat.reduceAdd, Nat.reduceSub, Nat.reduceMul, Nat.reduceLeDiff, reduceCtorEq, Int.reduceNeg, Int.reduceToNat, Int.reduceLT, Int.reduceLE, Int.reduceGE, Int.reduceGT, Int.reduceEq]; (try rw [decide_eq_true h]); (try rfl))
  · simp (dsimp := false) only [go_sem, ↓reduceIte, Nat.reduceEqDiff, Nat.reduceLT, Nat.reduceAdd, Nat.reduceSub, Nat.reduceMul, Nat.reduceLeDiff, reduceCtorEq, Int.reduceNeg, Int.reduceToNat, Int.reduceLT, Int.reduceLE, Int.reduceGE, Int.reduceGT, Int.reduceEq, h]
    rfl
set_option maxRecDepth 100000 in
theorem rValidInstance_pure (s : ByteArray) (hs : s.size ≤ 9223372036854775807) : PC Tryz.prog 58 [.raw (.string s)] (.raw (.bool (instB s))) := by
  refine PC.of_ac ?_
  refine AC.of_body (M := []) Tryz.func58 rfl (by kernel_rfl) (Nat.le_of_ble_eq_true rfl) ?_; simp only [Tryz.results58, Tryz.ntmps58]
  simp (dsimp := false) only [go_sem, ↓reduceIte, Nat.reduceEqDiff, Nat.reduceLT, Nat.reduceAdd, Nat.reduceSub, Nat.reduceMul, Nat.reduceLeDiff, reduceCtorEq, Int.reduceNeg, Int.reduceToNat, Int.reduceLT, Int.reduceLE, Int.reduceGE, Int.reduceGT, Int.reduceEq]
  exact ACs.pure (rtext_pure s ⟨#[64]⟩ hs (by decide)) (by simp (dsimp := false) only [go_sem, ↓reduceIte, Nat.reduceEqDiff, Nat.reduceLT, Nat.reduceAdd, Nat.reduceSub, Nat.reduceMul, Nat.reduceLeDiff, reduceCtorEq, Int.reduceNeg, Int.reduceToNat, Int.reduceLT, Int.reduceLE, Int.reduceGE, Int.reduceGT, Int.reduceEq]; rfl)
set_option maxRecDepth 100000 in
theorem Valid_pure (n i r : ByteArray) (hn : n.size ≤ 9223372036854775807) (hi : i.size ≤ 9223372036854775807) (hr : r.size ≤ 9223372036854775807) :
    PC Tryz.prog 115 [.st [.raw (.string n), .raw (.string i), .raw (.string r)]] (.raw (.bool (validB n i r))) := by
  refine PC.of_ac ?_
  refine AC.of_body (M := []) Tryz.func115 rfl (by kernel_rfl) (Nat.le_of_ble_eq_true rfl) ?_; simp only [Tryz.results115, Tryz.ntmps115]
  simp (dsimp := false) only [go_sem, ↓reduceIte, Nat.reduceEqDiff, Nat.reduceLT, Nat.reduceAdd, Nat.reduceSub, Nat.reduceMul, Nat.reduceLeDiff, reduceCtorEq, Int.reduceNeg, Int.reduceToNat, Int.reduceLT, Int.reduceLE, Int.reduceGE, Int.reduceGT, Int.reduceEq]
  refine ACs.pure (ValidName_pure n hn) ?_
  unfold validB
  cases nameB n
  · simp (dsimp := false) only [go_sem, ↓reduceIte, Nat.reduceEqDiff, Nat.reduceLT, Nat.reduceAdd, Nat.reduceSub, Nat.reduceMul, Nat.reduceLeDiff, reduceCtorEq, Int.reduceNeg, Int.reduceToNat, Int.reduceLT, Int.reduceLE, Int.reduceGE, Int.reduceGT, Int.reduceEq]
    rfl
  · simp (dsimp := false) only [go_sem, ↓reduceIte, Nat.reduceEqDiff, Nat.reduceLT, Nat.reduceAdd, Nat.reduceSub, Nat.reduceMul, Nat.reduceLeDiff, reduceCtorEq, Int.reduceNeg, Int.reduceToNat, Int.reduceLT, Int.reduceLE, Int.reduceGE, Int.reduceGT, Int.reduceEq]
    refine ACs.pure (ValidInstance_pure i hi) ?_
    cases instB i
    · simp (dsimp := false) only [go_sem, ↓reduceIte, Nat.reduceEqDiff, Nat.reduceLT, Nat.reduceAdd, Nat.reduceSub, Nat.reduceMul, Nat.reduceLeDiff, reduceCtorEq, Int.reduceNeg, Int.reduceToNat, Int.reduceLT, Int.reduceLE, Int.reduceGE, Int.reduceGT, Int.reduceEq]
      rfl
    · simp (dsimp := false) only [go_sem, ↓reduceIte, Nat.reduceEqDiff, Nat.reduceLT, Nat.reduceAdd, Nat.reduceSub, Nat.reduceMul, Nat.reduceLeDiff, reduceCtorEq, Int.reduceNeg, Int.reduceToNat, Int.reduceLT, Int.reduceLE, Int.reduceGE, Int.reduceGT, Int.reduceEq]
      exact ACs.pure (ValidRealm_pure r hr) (by simp (dsimp := false) only [go_sem, ↓reduceIte, Nat.reduceEqDiff, Nat.reduceLT, Nat.reduceAdd, Nat.reduceSub, Nat.reduceMul, Nat.reduceLeDiff, reduceCtorEq, Int.reduceNeg, Int.reduceToNat, Int.reduceLT, Int.reduceLE, Int.reduceGE, Int.reduceGT, Int.reduceEq])
set_option maxRecDepth 100000 in
theorem rValid_pure (n i r : ByteArray) (hn : n.size ≤ 9223372036854775807) (hi : i.size ≤ 9223372036854775807) (hr : r.size ≤ 9223372036854775807) :
    PC Tryz.prog 56 [.st [.raw (.string n), .raw (.string i), .raw (.string r)]] (.raw (.bool (validB n i r))) := by
  refine PC.of_ac ?_
  refine AC.of_body (M := []) Tryz.func56 rfl (by kernel_rfl) (Nat.le_of_ble_eq_true rfl) ?_; simp only [Tryz.results56, Tryz.ntmps56]
  simp (dsimp := false) only [go_sem, ↓reduceIte, Nat.reduceEqDiff, Nat.reduceLT, Nat.reduceAdd, Nat.reduceSub, Nat.reduceMul, Nat.reduceLeDiff, reduceCtorEq, Int.reduceNeg, Int.reduceToNat, Int.reduceLT, Int.reduceLE, Int.reduceGE, Int.reduceGT, Int.reduceEq]
  refine ACs.pure (rValidName_pure n hn) ?_
  unfold validB
  cases nameB n
  · simp (dsimp := false) only [go_sem, ↓reduceIte, Nat.reduceEqDiff, Nat.reduceLT, Nat.reduceAdd, Nat.reduceSub, Nat.reduceMul, Nat.reduceLeDiff, reduceCtorEq, Int.reduceNeg, Int.reduceToNat, Int.reduceLT, Int.reduceLE, Int.reduceGE, Int.reduceGT, Int.reduceEq]
    rfl
  · simp (dsimp := false) only [go_sem, ↓reduceIte, Nat.reduceEqDiff, Nat.reduceLT, Nat.reduceAdd, Nat.reduceSub, Nat.reduceMul, Nat.reduceLeDiff, reduceCtorEq, Int.reduceNeg, Int.reduceToNat, Int.reduceLT, Int.reduceLE, Int.reduceGE, Int.reduceGT, Int.reduceEq]
    refine ACs.pure (rValidInstance_pure i hi) ?_
    cases instB i
    · simp (dsimp := false) only [go_sem, ↓reduceIte, Nat.reduceEqDiff, Nat.reduceLT, Nat.reduceAdd, Nat.reduceSub, Nat.reduceMul, Nat.reduceLeDiff, reduceCtorEq, Int.reduceNeg, Int.reduceToNat, Int.reduceLT, Int.reduceLE, Int.reduceGE, Int.reduceGT, Int.reduceEq]
      rfl
    · simp (dsimp := false) only [go_sem, ↓reduceIte, Nat.reduceEqDiff, Nat.reduceLT, Nat.reduceAdd, Nat.reduceSub, Nat.reduceMul, Nat.reduceLeDiff, reduceCtorEq, Int.reduceNeg, Int.reduceToNat, Int.reduceLT, Int.reduceLE, Int.reduceGE, Int.reduceGT, Int.reduceEq]
      exact ACs.pure (rValidRealm_pure r hr) (by simp (dsimp := false) only [go_sem, ↓reduceIte, Nat.reduceEqDiff, Nat.reduceLT, Nat.reduceAdd, Nat.reduceSub, Nat.reduceMul, Nat.reduceLeDiff, reduceCtorEq, Int.reduceNeg, Int.reduceToNat, Int.reduceLT, Int.reduceLE, Int.reduceGE, Int.reduceGT, Int.reduceEq])
end Go.Proofs.YtghnigbihllnmaaGreat.Fn
