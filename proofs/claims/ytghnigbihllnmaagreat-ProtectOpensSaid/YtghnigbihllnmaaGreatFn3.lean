/- Contracts of functions that read texts. No condition but bounds on lengths. -/
import Derived.Lib.BytesEntry
import Derived.Test.YtghnigbihllnmaaGreatHlC
import Derived.Test.YtghnigbihllnmaaGreatSp1
import Derived.Test.YtghnigbihllnmaaGreatTy
set_option linter.unusedVariables false
set_option linter.unusedSimpArgs false

namespace Go.Proofs.YtghnigbihllnmaaGreat.Fn
open Go Go.Proofs Go.Proofs.YtghnigbihllnmaaGreat.Hl Go.Proofs.YtghnigbihllnmaaGreat.Ty Go.Proofs.YtghnigbihllnmaaGreat.Sp
set_option maxRecDepth 100000

/-- A function without a body whose entry writes nothing. -/
theorem PC.extern {P : Program} {f : Nat} {fn : Func} {e : Array Value → Sem Value} {args : List AV} {d : AV} (hf : P.funcs[f]? = some fn) (hn : (fn.name == "runtime.NumGoroutine") = false) (hb : fn.body.isNone = true) (h1 : (Extern.findNext fn).isNone = true) (h2 : Extern.find fn = some e)
    (h : ∀ w F vs, WF w F → Reps w F args vs → ∃ v, (e vs.toArray).run P w = .ok v w ∧ Rep w F d v) : PC P f args d := by
  intro w F vs hwf hr
  obtain ⟨v, hv, hrep⟩ := h w F vs hwf hr
  have hrun : (callFunc f vs.toArray).run P w = .ok (.value v) w := by
    simp only [callFunc, Sem.run_bind, run_program, Result.andThen_ok, hf]
    rw [if_neg (by rw [hn]; simp), if_pos hb]
    cases hq : Extern.findNext fn with
    | some x => rw [hq] at h1; cases h1
    | none =>
      simp only [Sem.run_bind, run_mark, Result.andThen_ok, h2, hv, Sem.run_pure]
  unfold CallRes
  rw [hrun]
  exact ⟨F, Ext.refl hwf, hrep⟩

theorem byte_cells {w : World} {F : Frz} {k off : Nat} {bs : List UInt8} (h : RepL w F k off 1 (bs.map byteA)) : ∀ i, i < bs.length → w.cell? ⟨k, off + i, none⟩ = some (.int .u8 ((bs.map fun b => (b.toNat : Int)).getD i 0)) := by
  intro i hi
  obtain ⟨x, h1, h2, h3⟩ := h.get i (byteA bs[i]) (by simp [hi])
  simp only [byteA, Rep] at h1
  rw [h1.1] at h3
  have := (h3 0 (.int .u8 bs[i].toNat) (by simp [Value.cells])).2
  rw [Nat.mul_one, Nat.add_zero] at this
  rw [this]
  simp [List.getD_eq_getElem?_getD, hi]
theorem bytesOf_ints (bs : List UInt8) : Lib.bytesOf (bs.map fun b => (b.toNat : Int)) = bs := by
  unfold Lib.bytesOf
  rw [List.map_map]
  conv => rhs; rw [← List.map_id bs]
  refine List.map_congr_left fun b _ => ?_
  simp

theorem bytealg_pure (bs : List UInt8) (c : UInt8) : PC Tryz.prog 186 [.lst 1 (bs.map byteA), byteA c] (.raw (.int .i64 (Lib.indexByte bs c))) := by
  refine PC.extern (e := Extern.BytealgIndexByte.indexByte) Tryz.func186 (by kernel_rfl) (by kernel_rfl) (by kernel_rfl) (by kernel_rfl) fun w F vs hwf hr => ?_
  simp only [Reps] at hr
  obtain ⟨x, xs, rfl, hx, y, ys, rfl, hy, rfl⟩ := hr
  simp only [byteA, Rep] at hx hy
  obtain ⟨A, cp, rfl, h1, h2, h3⟩ := hx
  rw [hy.1]
  refine ⟨_, ?_, by simp [Rep, Value.oneCell']; rfl⟩
  have hc : ((c.toNat : Int)).toNat.toUInt8 = c := by simp
  by_cases hb : bs = []
  · subst hb
    cases A with
    | none => exact Lib.run_indexByteNil w _ _ _
    | some a =>
      have := Lib.run_indexByteNil (P := Tryz.prog) w 0 cp (c.toNat : Int)
      exact this
  · obtain ⟨k, off, rfl, hL⟩ := h3 (by simpa using hb)
    have := Lib.run_indexByteSlice (P := Tryz.prog) w k off bs.length cp (bs.map fun b => (b.toNat : Int)) (by simp) (byte_cells hL) c.toNat
    rw [bytesOf_ints, hc] at this
    simpa using this
theorem IndexByte_pure (bs : List UInt8) (c : UInt8) : PC Tryz.prog 173 [.lst 1 (bs.map byteA), byteA c] (.raw (.int .i64 (Lib.indexByte bs c))) := by
  refine PC.of_ac ?_
  refine AC.of_body (M := []) Tryz.func173 rfl (by kernel_rfl) (Nat.le_of_ble_eq_true rfl) ?_; simp only [Tryz.results173, Tryz.ntmps173]
  simp (dsimp := false) only [go_sem, ↓reduceIte, Nat.reduceEqDiff, Nat.reduceLT, Nat.reduceAdd, Nat.reduceSub, Nat.reduceMul, Nat.reduceLeDiff, reduceCtorEq, Int.reduceNeg, Int.reduceToNat, Int.reduceLT, Int.reduceLE, Int.reduceGE, Int.reduceGT, Int.reduceEq]
  exact ACs.pure (bytealg_pure bs c) (by simp (dsimp := false) only [go_sem, ↓reduceIte, Nat.reduceEqDiff, Nat.reduceLT, Nat.reduceAdd, Nat.reduceSub, Nat.reduceMul, Nat.reduceLeDiff, reduceCtorEq, Int.reduceNeg, Int.reduceToNat, Int.reduceLT, Int.reduceLE, Int.reduceGE, Int.reduceGT, Int.reduceEq])

/-- What field.Text reads: the text, the index behind it, the error. -/
def textR (b : List UInt8) (at_ : Int) : ByteArray × Int × Int :=
  if at_ < 0 ∨ (b.length : Int) < at_ then (⟨#[]⟩, 0, 104)
  else
    let rest := b.drop at_.toNat
    let n := Lib.indexByte (rest.take 40) 0
    if 0 ≤ n then (⟨(rest.take n.toNat).toArray⟩, at_ + n + 1, 0) else if 39 < rest.length then (⟨#[]⟩, 0, 105) else (⟨#[]⟩, 0, 101)
theorem indexByte_le : ∀ (l : List UInt8) (c : UInt8), -1 ≤ Lib.indexByte l c ∧ Lib.indexByte l c < l.length
  | [], c => by simp [Lib.indexByte]
  | b :: l, c => by
    have ih := indexByte_le l c
    unfold Lib.indexByte
    simp only [List.length_cons]
    split
    · omega
    · split <;> omega
set_option maxHeartbeats 1600000 in
theorem Text_pure (b : List UInt8) (at_ : Int) (hn : b.length ≤ 140737488355000) : PC Tryz.prog 138 [.lst 1 (b.map byteA), .raw (.int .i64 at_)] (.tup [.raw (.string (textR b at_).1), .raw (.int .i64 (textR b at_).2.1), .raw (.int .i64 (textR b at_).2.2)]) := by
  refine PC.of_ac ?_
  refine AC.of_body (M := []) Tryz.func138 rfl (by kernel_rfl) (Nat.le_of_ble_eq_true rfl) ?_; simp only [Tryz.results138, Tryz.ntmps138]
  by_cases h1 : at_ < 0
  · simp (dsimp := false) only [go_sem, ↓reduceIte, Nat.reduceEqDiff, Nat.reduceLT, Nat.reduceAdd, Nat.reduceSub, Nat.reduceMul, Nat.reduceLeDiff, reduceCtorEq, Int.reduceNeg, Int.reduceToNat, Int.reduceLT, Int.reduceLE, Int.reduceGE, Int.reduceGT, Int.reduceEq, h1]
    simp [textR, h1]
  by_cases h2 : (b.length : Int) < at_
  · simp (dsimp := false) only [go_sem, ↓reduceIte, Nat.reduceEqDiff, Nat.reduceLT, Nat.reduceAdd, Nat.reduceSub, Nat.reduceMul, Nat.reduceLeDiff, reduceCtorEq, Int.reduceNeg, Int.reduceToNat, Int.reduceLT, Int.reduceLE, Int.reduceGE, Int.reduceGT, Int.reduceEq, h1, h2, List.length_map]
    simp [textR, h1, h2]
  simp (dsimp := false) only [go_sem, ↓reduceIte, Nat.reduceEqDiff, Nat.reduceLT, Nat.reduceAdd, Nat.reduceSub, Nat.reduceMul, Nat.reduceLeDiff, reduceCtorEq, Int.reduceNeg, Int.reduceToNat, Int.reduceLT, Int.reduceLE, Int.reduceGE, Int.reduceGT, Int.reduceEq, h1, h2]
  generalize hrest : b.drop at_.toNat = rest
  have hmin : (min (rest.length : Int) 40).toNat = min rest.length 40 := by omega
  have hrl : rest.length = b.length - at_.toNat := by rw [← hrest]; simp
  refine ⟨by omega, by omega, ?_⟩
  rw [hmin]
  refine ACs.pure (IndexByte_pure (rest.take (min rest.length 40)) 0) ?_
  have hib := indexByte_le (rest.take (min rest.length 40)) 0
  have htk : rest.take (min rest.length 40) = rest.take 40 := by
    by_cases h : rest.length ≤ 40
    · rw [List.take_of_length_le (by omega), List.take_of_length_le (by omega)]
    · rw [show min rest.length 40 = 40 by omega]
  rw [htk] at hib ⊢
  have htl : (rest.take 40).length ≤ rest.length := by simp; omega
  have hT : textR b at_ = (if 0 ≤ Lib.indexByte (rest.take 40) 0 then (⟨(rest.take (Lib.indexByte (rest.take 40) 0).toNat).toArray⟩, at_ + Lib.indexByte (rest.take 40) 0 + 1, 0) else if 39 < rest.length then (⟨#[]⟩, 0, 105) else (⟨#[]⟩, 0, 101)) := by
    unfold textR
    rw [if_neg (by omega), hrest]
  rw [hT]
  generalize Lib.indexByte (rest.take 40) 0 = n at *
  by_cases h3 : n ≥ 0
  · rw [if_pos h3]
    simp (dsimp := false) only [go_sem, ↓reduceIte, Nat.reduceEqDiff, Nat.reduceLT, Nat.reduceAdd, Nat.reduceSub, Nat.reduceMul, Nat.reduceLeDiff, reduceCtorEq, Int.reduceNeg, Int.reduceToNat, Int.reduceLT, Int.reduceLE, Int.reduceGE, Int.reduceGT, Int.reduceEq, h3, hrest]
    refine ⟨by omega, ?_⟩
    rw [wrap_i64 (x := at_ + n) (by omega) (by omega), wrap_i64 (by omega) (by omega)]
  rw [if_neg h3]
  by_cases h4 : (rest.length : Int) > 39
  · rw [if_pos (by omega)]
    simp (dsimp := false) only [go_sem, ↓reduceIte, Nat.reduceEqDiff, Nat.reduceLT, Nat.reduceAdd, Nat.reduceSub, Nat.reduceMul, Nat.reduceLeDiff, reduceCtorEq, Int.reduceNeg, Int.reduceToNat, Int.reduceLT, Int.reduceLE, Int.reduceGE, Int.reduceGT, Int.reduceEq, h3, h4, hrest]
  · rw [if_neg (by omega)]
    simp (dsimp := false) only [go_sem, ↓reduceIte, Nat.reduceEqDiff, Nat.reduceLT, Nat.reduceAdd, Nat.reduceSub, Nat.reduceMul, Nat.reduceLeDiff, reduceCtorEq, Int.reduceNeg, Int.reduceToNat, Int.reduceLT, Int.reduceLE, Int.reduceGE, Int.reduceGT, Int.reduceEq, h3, h4, hrest]
end Go.Proofs.YtghnigbihllnmaaGreat.Fn
