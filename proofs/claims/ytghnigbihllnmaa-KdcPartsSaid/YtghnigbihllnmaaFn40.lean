/- The law on requests to a KDC. -/
import Derived.Test.YtghnigbihllnmaaFn39
import Derived.Test.YtghnigbihllnmaaFn21
import Derived.Test.YtghnigbihllnmaaFn11
set_option linter.unusedVariables false
set_option linter.unusedSimpArgs false
namespace Go.Proofs.Ytghnigbihllnmaa.Fn
open Go Hl Sp Ty
set_option maxRecDepth 100000
def strA (s : ByteArray) : AV := .raw (.string s)
def long9B (l : List ByteArray) : Bool := l.any fun s => decide ((s.size : Int) > 100)
theorem getD_str {l : List ByteArray} {i : Nat} (h : i < l.length) : (l.map strA).getD i .any = strA (l.getD i ⟨#[]⟩) := by
  simp [List.getD_eq_getElem?_getD, h]
theorem long9_pure (l : List ByteArray) (hl : l.length ≤ 1000) : PC Try.prog 24 [.lst 1 (l.map strA)] (.raw (.bool (long9B l))) := by
  refine PC.of_ac ?_
  refine AC.of_body (M := []) Try.func24 rfl (by kernel_rfl) (Nat.le_of_ble_eq_true rfl) ?_; simp only [Try.results24, Try.ntmps24]
  simp (dsimp := false) only [go_sem, ↓reduceIte, Nat.reduceEqDiff, Nat.reduceLT, Nat.reduceAdd, Nat.reduceSub, Nat.reduceMul, Nat.reduceLeDiff, reduceCtorEq, Int.reduceNeg, Int.reduceToNat, Int.reduceLT, Int.reduceLE, Int.reduceGE, Int.reduceGT, Int.reduceEq]
  refine AW.loopJ (M := []) (X := Nat) (fun i => ⟨16, tmL [(0, .lst 1 (l.map strA)), (3, .raw (.int .i64 i))], noOwn⟩)
    (fun i => i ≤ l.length ∧ ∀ j < i, ¬ ((l.getD j ⟨#[]⟩).size : Int) > 100) (fun i => l.length - i) 0 ⟨Nat.zero_le _, fun j h => absurd h (by omega)⟩ ?_ ?_
  · (refine Ghost.of ?_ (fun _ _ h => by cases h); (repeat' (first | exact all_nil | refine all_cons ?_ ?_)) <;> (first | (simp (dsimp := false) only [go_sem, ↓reduceIte, Nat.reduceEqDiff, Nat.reduceLT, Nat.reduceAdd, Nat.reduceSub, Nat.reduceMul, Nat.reduceLeDiff, reduceCtorEq, Int.reduceNeg, Int.reduceToNat, Int.reduceLT, Int.reduceLE, Int.reduceGE, Int.reduceGT, Int.reduceEq]; done) | (simp (dsimp := false) only [go_sem, ↓reduceIte, Nat.reduceEqDiff, Nat.reduceLT, Nat.reduceAdd, Nat.reduceSub, Nat.reduceMul, Nat.reduceLeDiff, reduceCtorEq, Int.reduceNeg, Int.reduceToNat, Int.reduceLT, Int.reduceLE, Int.reduceGE, Int.reduceGT, Int.reduceEq]; rfl)))
  rintro i ⟨hi, hne⟩
  have hL : (l.map strA).length = l.length := List.length_map ..
  by_cases hlt : (i : Int) < (l.map strA).length
  · have e1 : IntKind.i64.wrap ((i : Int) + 1) = ((i + 1 : Nat) : Int) := by rw [wrap_i64 (by omega) (by omega)]; omega
    have g : (l.map strA).getD i .any = .raw (.string (l.getD i ⟨#[]⟩)) := getD_str (by omega)
    have hmem : l.getD i ⟨#[]⟩ ∈ l := by
      rw [List.getD_eq_getElem?_getD, List.getElem?_eq_getElem (by omega)]
      exact List.getElem_mem _
    obtain ⟨y, hy⟩ : ∃ y, l.getD i ⟨#[]⟩ = y := ⟨_, rfl⟩
    rw [hy] at g hmem
    by_cases hx : (y.size : Int) > 100
    · have hB : long9B l = true := List.any_eq_true.2 ⟨y, hmem, by simpa using hx⟩
      simp (dsimp := false) only [go_sem, ↓reduceIte, Nat.reduceEqDiff, Nat.reduceLT, Nat.reduceAdd, Nat.reduceSub, Nat.reduceMul, Nat.reduceLeDiff, reduceCtorEq, Int.reduceNeg, Int.reduceToNat, Int.reduceLT, Int.reduceLE, Int.reduceGE, Int.reduceGT, Int.reduceEq, hlt, g, hx]
      (try refine ⟨by omega, ?_⟩)
      rw [hB]
    · simp (dsimp := false) only [go_sem, ↓reduceIte, Nat.reduceEqDiff, Nat.reduceLT, Nat.reduceAdd, Nat.reduceSub, Nat.reduceMul, Nat.reduceLeDiff, reduceCtorEq, Int.reduceNeg, Int.reduceToNat, Int.reduceLT, Int.reduceLE, Int.reduceGE, Int.reduceGT, Int.reduceEq, hlt, g, hx, e1]
      (try refine ⟨by omega, ?_⟩)
      refine ⟨i + 1, ⟨by omega, fun j hj => ?_⟩, ?_, by omega⟩
      · by_cases hji : j = i
        · rw [hji, hy]; exact hx
        · exact hne j (by omega)
      · (refine Ghost.of ?_ (fun _ _ h => by cases h); (repeat' (first | exact all_nil | refine all_cons ?_ ?_)) <;> (first | (simp (dsimp := false) only [go_sem, ↓reduceIte, Nat.reduceEqDiff, Nat.reduceLT, Nat.reduceAdd, Nat.reduceSub, Nat.reduceMul, Nat.reduceLeDiff, reduceCtorEq, Int.reduceNeg, Int.reduceToNat, Int.reduceLT, Int.reduceLE, Int.reduceGE, Int.reduceGT, Int.reduceEq]; done) | (simp (dsimp := false) only [go_sem, ↓reduceIte, Nat.reduceEqDiff, Nat.reduceLT, Nat.reduceAdd, Nat.reduceSub, Nat.reduceMul, Nat.reduceLeDiff, reduceCtorEq, Int.reduceNeg, Int.reduceToNat, Int.reduceLT, Int.reduceLE, Int.reduceGE, Int.reduceGT, Int.reduceEq]; rfl)))
  · have hB : long9B l = false := by
      rw [Bool.eq_false_iff]
      intro h
      obtain ⟨y, hy, hs⟩ := List.any_eq_true.1 h
      obtain ⟨j, hj, e⟩ := List.mem_iff_getElem.1 hy
      refine absurd ?_ (hne j (by omega))
      rw [List.getD_eq_getElem?_getD, List.getElem?_eq_getElem hj]
      simp only [Option.getD_some, e]
      simpa using hs
    simp (dsimp := false) only [go_sem, ↓reduceIte, Nat.reduceEqDiff, Nat.reduceLT, Nat.reduceAdd, Nat.reduceSub, Nat.reduceMul, Nat.reduceLeDiff, reduceCtorEq, Int.reduceNeg, Int.reduceToNat, Int.reduceLT, Int.reduceLE, Int.reduceGE, Int.reduceGT, Int.reduceEq, hlt]
    rw [hB]
theorem awake9_pure : PC Try.prog 23 [] (.raw (.bool true)) := by
  refine PC.of_ac ?_
  have he := reqEncode_pure true ⟨#[97, 110, 110]⟩ ⟨#[]⟩ ⟨#[65, 84, 72]⟩ 0 0 ⟨#[109, 97, 105, 108]⟩ ⟨#[]⟩ (by decide) (by decide) (by decide) (by decide) (by decide)
  have hU := User_pure 0 (by decide) (by decide)
  rw [show prinA (userP 0) = .st [.raw (.string ⟨#[97, 110, 110]⟩), .raw (.string ⟨#[]⟩), .raw (.string ⟨#[65, 84, 72]⟩)] by rfl] at hU
  have e1 : reqE true ⟨#[97, 110, 110]⟩ ⟨#[]⟩ ⟨#[65, 84, 72]⟩ 0 0 ⟨#[109, 97, 105, 108]⟩ ⟨#[]⟩ = .tup [.lst 1 ([4, 3, 97, 110, 110, 0, 0, 65, 84, 72, 0, 0, 0, 0, 0, 0, 109, 97, 105, 108, 0, 0].map byteA), .raw (.int .i64 0)] := by
    have c1 : reqChk true ⟨#[97, 110, 110]⟩ ⟨#[]⟩ ⟨#[65, 84, 72]⟩ 0 0 ⟨#[109, 97, 105, 108]⟩ ⟨#[]⟩ = 0 := by decide
    have c2 : reqB true ⟨#[97, 110, 110]⟩ ⟨#[]⟩ ⟨#[65, 84, 72]⟩ 0 0 ⟨#[109, 97, 105, 108]⟩ ⟨#[]⟩ = [4, 3, 97, 110, 110, 0, 0, 65, 84, 72, 0, 0, 0, 0, 0, 0, 109, 97, 105, 108, 0, 0] := by decide
    rw [reqE, c1, if_pos rfl, c2]
  rw [e1] at he
  unfold reqA at he
  refine AC.of_body (M := []) Try.func23 rfl (by kernel_rfl) (Nat.le_of_ble_eq_true rfl) ?_; simp only [Try.results23, Try.ntmps23]
  simp (dsimp := false) only [go_sem, ↓reduceIte, Nat.reduceEqDiff, Nat.reduceLT, Nat.reduceAdd, Nat.reduceSub, Nat.reduceMul, Nat.reduceLeDiff, reduceCtorEq, Int.reduceNeg, Int.reduceToNat, Int.reduceLT, Int.reduceLE, Int.reduceGE, Int.reduceGT, Int.reduceEq]
  refine ACs.pure hU ?_
  simp (dsimp := false) only [go_sem, ↓reduceIte, Nat.reduceEqDiff, Nat.reduceLT, Nat.reduceAdd, Nat.reduceSub, Nat.reduceMul, Nat.reduceLeDiff, reduceCtorEq, Int.reduceNeg, Int.reduceToNat, Int.reduceLT, Int.reduceLE, Int.reduceGE, Int.reduceGT, Int.reduceEq]
  refine ACs.pure he ?_
  have hb : byteA 4 = .raw (.int .u8 4) := rfl
  have hb' : byteA 3 = .raw (.int .u8 3) := rfl
  simp (dsimp := false) only [go_sem, ↓reduceIte, Nat.reduceEqDiff, Nat.reduceLT, Nat.reduceAdd, Nat.reduceSub, Nat.reduceMul, Nat.reduceLeDiff, reduceCtorEq, Int.reduceNeg, Int.reduceToNat, Int.reduceLT, Int.reduceLE, Int.reduceGE, Int.reduceGT, Int.reduceEq, hb, hb']
theorem TkOk.size' {n i r : ByteArray} {ad k li is : Int} {s t : ByteArray} (h : TkOk n i r ad k li is s t) : n.size ≤ 39 ∧ i.size ≤ 39 ∧ r.size ≤ 39 ∧ s.size ≤ 39 ∧ t.size ≤ 39 := by
  have a := validB_size h.1
  have b := nameB_size h.2.1
  have c := instB_size h.2.2.1
  omega
theorem reqB_length (lt : Bool) (n i r : ByteArray) (tm li : Int) (s t : ByteArray) : (reqB lt n i r tm li s t).length ≤ n.size + i.size + r.size + s.size + t.size + 20 := by
  rw [reqB, List.length_append, hdB_length, reqF_length]
  omega
end Go.Proofs.Ytghnigbihllnmaa.Fn
