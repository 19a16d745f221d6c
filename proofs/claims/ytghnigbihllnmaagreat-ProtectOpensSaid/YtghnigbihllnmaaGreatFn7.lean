/- The reference's reader of texts. -/
import Derived.Test.YtghnigbihllnmaaGreatHlC
import Derived.Test.YtghnigbihllnmaaGreatSp1
import Derived.Test.YtghnigbihllnmaaGreatTy
import Derived.Test.YtghnigbihllnmaaGreatFn1
import Derived.Test.YtghnigbihllnmaaGreatFn3
set_option linter.unusedVariables false
set_option linter.unusedSimpArgs false
namespace Go.Proofs.YtghnigbihllnmaaGreat.Fn
open Go Hl Sp Ty

theorem ib_app (c : UInt8) (m : List UInt8) : ∀ l : List UInt8, Lib.indexByte l c = -1 → Lib.indexByte (l ++ m) c = if Lib.indexByte m c = -1 then -1 else l.length + Lib.indexByte m c
  | [], _ => by
    simp only [List.nil_append, List.length_nil]
    split
    · assumption
    · omega
  | b :: l, h => by
    have hm := indexByte_le m c
    have hl := indexByte_le l c
    unfold Lib.indexByte at h
    simp only [List.cons_append]
    rw [Lib.indexByte]
    by_cases hb : (b == c) = true
    · rw [if_pos hb] at h; omega
    · rw [if_neg hb] at h ⊢
      have h1 : Lib.indexByte l c = -1 := by
        by_cases h2 : (Lib.indexByte l c == -1) = true
        · simpa using h2
        · rw [if_neg h2] at h; omega
      rw [ib_app c m l h1]
      simp only [List.length_cons]
      by_cases h3 : Lib.indexByte m c = -1
      · rw [if_pos h3, if_pos h3, if_pos (by decide)]
      · rw [if_neg h3, if_neg h3, if_neg (by simp; omega)]; omega
theorem ib_snoc (l : List UInt8) (b c : UInt8) (h : Lib.indexByte l c = -1) (hb : b ≠ c) : Lib.indexByte (l ++ [b]) c = -1 := by
  rw [ib_app c [b] l h, if_pos (by simp [Lib.indexByte, hb])]
theorem ib_hit (l m : List UInt8) (c : UInt8) (h : Lib.indexByte l c = -1) : Lib.indexByte (l ++ c :: m) c = l.length := by
  rw [ib_app c (c :: m) l h, if_neg (by simp [Lib.indexByte])]
  simp [Lib.indexByte]

set_option maxRecDepth 100000 in
set_option maxHeartbeats 4000000 in
theorem rText_pure (b : List UInt8) (at_ : Int) (hn : b.length ≤ 140737488355000) : PC Tryz.prog 142 [.lst 1 (b.map byteA), .raw (.int .i64 at_)] (.tup [.raw (.string (textR b at_).1), .raw (.int .i64 (textR b at_).2.1), .raw (.int .i64 (textR b at_).2.2)]) := by
  refine PC.of_ac ?_
  refine AC.of_body (M := []) Tryz.func142 rfl (by kernel_rfl) (Nat.le_of_ble_eq_true rfl) ?_; simp only [Tryz.results142, Tryz.ntmps142]
  by_cases h1 : at_ < 0
  · simp (dsimp := false) only [go_sem, ↓reduceIte, Nat.reduceEqDiff, Nat.reduceLT, Nat.reduceAdd, Nat.reduceSub, Nat.reduceMul, Nat.reduceLeDiff, reduceCtorEq, Int.reduceNeg, Int.reduceToNat, Int.reduceLT, Int.reduceLE, Int.reduceGE, Int.reduceGT, Int.reduceEq, h1]
    simp [textR, h1]
  by_cases h2 : at_ > (b.length : Int)
  · simp (dsimp := false) only [go_sem, ↓reduceIte, Nat.reduceEqDiff, Nat.reduceLT, Nat.reduceAdd, Nat.reduceSub, Nat.reduceMul, Nat.reduceLeDiff, reduceCtorEq, Int.reduceNeg, Int.reduceToNat, Int.reduceLT, Int.reduceLE, Int.reduceGE, Int.reduceGT, Int.reduceEq, h1, h2]
    have h2' : (b.length : Int) < at_ := h2
    simp [textR, h1, h2']
  simp (dsimp := false) only [go_sem, ↓reduceIte, Nat.reduceEqDiff, Nat.reduceLT, Nat.reduceAdd, Nat.reduceSub, Nat.reduceMul, Nat.reduceLeDiff, reduceCtorEq, Int.reduceNeg, Int.reduceToNat, Int.reduceLT, Int.reduceLE, Int.reduceGE, Int.reduceGT, Int.reduceEq, h1, h2]
  have hrl : (b.drop at_.toNat).length = b.length - at_.toNat := by simp
  have hT : textR b at_ = (if 0 ≤ Lib.indexByte ((b.drop at_.toNat).take 40) 0 then (⟨((b.drop at_.toNat).take (Lib.indexByte ((b.drop at_.toNat).take 40) 0).toNat).toArray⟩, at_ + Lib.indexByte ((b.drop at_.toNat).take 40) 0 + 1, 0) else if 39 < (b.drop at_.toNat).length then (⟨#[]⟩, 0, 105) else (⟨#[]⟩, 0, 101)) := by
    unfold textR
    rw [if_neg (by omega)]
  generalize hrest : b.drop at_.toNat = rest at *
  refine AW.loopJ (M := []) (X := Nat) (fun i => ⟨44, tmL [(0, .lst 1 (b.map byteA)), (1, .raw (.int .i64 at_)), (7, .raw (.int .i64 i))], noOwn⟩)
    (fun i => i ≤ 40 ∧ i ≤ rest.length ∧ Lib.indexByte (rest.take i) 0 = -1) (fun i => 40 - i) 0 ⟨by omega, by omega, rfl⟩ ?_ ?_
  · (refine Ghost.same ?_; (repeat' (first | exact all_nil | refine all_cons ?_ ?_)) <;> (first | (simp (dsimp := false) only [go_sem, ↓reduceIte, Nat.reduceEqDiff, Nat.reduceLT, Nat.reduceAdd, Nat.reduceSub, Nat.reduceMul, Nat.reduceLeDiff, reduceCtorEq, Int.reduceNeg, Int.reduceToNat, Int.reduceLT, Int.reduceLE, Int.reduceGE, Int.reduceGT, Int.reduceEq]; done) | (simp (dsimp := false) only [go_sem, ↓reduceIte, Nat.reduceEqDiff, Nat.reduceLT, Nat.reduceAdd, Nat.reduceSub, Nat.reduceMul, Nat.reduceLeDiff, reduceCtorEq, Int.reduceNeg, Int.reduceToNat, Int.reduceLT, Int.reduceLE, Int.reduceGE, Int.reduceGT, Int.reduceEq]; rfl)))
  · rintro i ⟨hi, hir, hib⟩
    by_cases h3 : (i : Int) ≤ 39
    · have e1 : IntKind.i64.wrap (at_ + (i : Int)) = at_ + i := wrap_i64 (by omega) (by omega)
      have e2 : IntKind.i64.wrap ((i : Int) + 1) = ((i + 1 : Nat) : Int) := by rw [wrap_i64 (by omega) (by omega)]; omega
      have e3 : IntKind.i64.wrap (at_ + (i : Int) + 1) = at_ + i + 1 := wrap_i64 (by omega) (by omega)
      by_cases h4 : at_ + (i : Int) ≥ (b.length : Int)
      · have hT2 : textR b at_ = (⟨#[]⟩, 0, 101) := by
          rw [hT, List.take_of_length_le (by omega)]
          rw [List.take_of_length_le (by omega)] at hib
          rw [hib, if_neg (by decide), if_neg (by omega)]
        simp (dsimp := false) only [go_sem, ↓reduceIte, Nat.reduceEqDiff, Nat.reduceLT, Nat.reduceAdd, Nat.reduceSub, Nat.reduceMul, Nat.reduceLeDiff, reduceCtorEq, Int.reduceNeg, Int.reduceToNat, Int.reduceLT, Int.reduceLE, Int.reduceGE, Int.reduceGT, Int.reduceEq, h3, e1, h4, hT2]
      · have hlt : i < rest.length := by omega
        have hget : (b.map byteA).getD (at_ + (i : Int)).toNat .any = .raw (.int .u8 ((rest.getD i 0).toNat)) := by
          rw [getD_byte (by omega), ← hrest]
          have : (b.drop at_.toNat).getD i 0 = b.getD (at_ + (i : Int)).toNat 0 := by
            rw [List.getD_eq_getElem?_getD, List.getD_eq_getElem?_getD, List.getElem?_drop, show at_.toNat + i = (at_ + (i : Int)).toNat by omega]
          rw [this]; rfl
        have htake : rest.take (i + 1) = rest.take i ++ [rest.getD i 0] := by
          rw [List.take_add_one]
          simp [List.getD_eq_getElem?_getD, List.getElem?_eq_getElem hlt]
        have hxl : (rest.take i).length = i := by simp; omega
        generalize hc : rest.getD i 0 = c at *
        by_cases h5 : (c.toNat : Int) = 0
        · have hc0 : c = 0 := by apply UInt8.toNat_inj.1; simpa using h5
          subst hc0
          have hhit : Lib.indexByte (rest.take 40) 0 = i := by
            have : rest.take 40 = rest.take i ++ 0 :: (rest.drop (i + 1)).take (40 - (i + 1)) := by
              rw [show 40 = (i + 1) + (40 - (i + 1)) by omega, List.take_add, htake]
              simp
            rw [this, ib_hit _ _ _ hib, hxl]
          have hT2 : textR b at_ = (⟨(rest.take i).toArray⟩, at_ + i + 1, 0) := by
            rw [hT, hhit, if_pos (by omega), Int.toNat_natCast]
          simp (dsimp := false) only [go_sem, ↓reduceIte, Nat.reduceEqDiff, Nat.reduceLT, Nat.reduceAdd, Nat.reduceSub, Nat.reduceMul, Nat.reduceLeDiff, reduceCtorEq, Int.reduceNeg, Int.reduceToNat, Int.reduceLT, Int.reduceLE, Int.reduceGE, Int.reduceGT, Int.reduceEq, h3, e1, e3, h4, hget, h5, hT2]
          refine ⟨by omega, by omega, ?_⟩
          rw [hrest, show (at_ + (i : Int)).toNat - at_.toNat = i by omega]
        · simp (dsimp := false) only [go_sem, ↓reduceIte, Nat.reduceEqDiff, Nat.reduceLT, Nat.reduceAdd, Nat.reduceSub, Nat.reduceMul, Nat.reduceLeDiff, reduceCtorEq, Int.reduceNeg, Int.reduceToNat, Int.reduceLT, Int.reduceLE, Int.reduceGE, Int.reduceGT, Int.reduceEq, h3, e1, e2, h4, hget, h5]
          refine ⟨by omega, i + 1, ⟨by omega, by omega, ?_⟩, ?_, by omega⟩
          · rw [htake]
            exact ib_snoc _ _ _ hib fun h => h5 (by rw [h]; rfl)
          · (refine Ghost.same ?_; (repeat' (first | exact all_nil | refine all_cons ?_ ?_)) <;> (first | (simp (dsimp := false) only [go_sem, ↓reduceIte, Nat.reduceEqDiff, Nat.reduceLT, Nat.reduceAdd, Nat.reduceSub, Nat.reduceMul, Nat.reduceLeDiff, reduceCtorEq, Int.reduceNeg, Int.reduceToNat, Int.reduceLT, Int.reduceLE, Int.reduceGE, Int.reduceGT, Int.reduceEq]; done) | (simp (dsimp := false) only [go_sem, ↓reduceIte, Nat.reduceEqDiff, Nat.reduceLT, Nat.reduceAdd, Nat.reduceSub, Nat.reduceMul, Nat.reduceLeDiff, reduceCtorEq, Int.reduceNeg, Int.reduceToNat, Int.reduceLT, Int.reduceLE, Int.reduceGE, Int.reduceGT, Int.reduceEq]; rfl)))
    · have h40 : i = 40 := by omega
      subst h40
      have hT2 : textR b at_ = (⟨#[]⟩, 0, 105) := by
        rw [hT, hib, if_neg (by decide), if_pos (by omega)]
      simp (dsimp := false) only [go_sem, ↓reduceIte, Nat.reduceEqDiff, Nat.reduceLT, Nat.reduceAdd, Nat.reduceSub, Nat.reduceMul, Nat.reduceLeDiff, reduceCtorEq, Int.reduceNeg, Int.reduceToNat, Int.reduceLT, Int.reduceLE, Int.reduceGE, Int.reduceGT, Int.reduceEq, h3, hT2]
end Go.Proofs.YtghnigbihllnmaaGreat.Fn
