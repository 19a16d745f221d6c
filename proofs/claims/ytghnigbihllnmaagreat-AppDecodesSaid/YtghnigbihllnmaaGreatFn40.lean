/- The law on requests to a KDC. -/
import Derived.Test.YtghnigbihllnmaaGreatFn39
import Derived.Test.YtghnigbihllnmaaGreatFn21
import Derived.Test.YtghnigbihllnmaaGreatFn11
set_option linter.unusedVariables false
set_option linter.unusedSimpArgs false
namespace Go.Proofs.YtghnigbihllnmaaGreat.Fn
open Go Hl Sp Ty
set_option maxRecDepth 100000
def strA (s : ByteArray) : AV := .raw (.string s)
def long9B (l : List ByteArray) : Bool := l.any fun s => decide ((s.size : Int) > 100)
theorem getD_str {l : List ByteArray} {i : Nat} (h : i < l.length) : (l.map strA).getD i .any = strA (l.getD i ⟨#[]⟩) := by
  simp [List.getD_eq_getElem?_getD, h]
theorem awake9_pure : PC Tryz.prog 6 [] (.raw (.bool true)) := by
  refine PC.of_ac ?_
  have he := reqEncode_pure true ⟨#[97, 110, 110]⟩ ⟨#[]⟩ ⟨#[65, 84, 72]⟩ 0 0 ⟨#[109, 97, 105, 108]⟩ ⟨#[]⟩ (by decide) (by decide) (by decide) (by decide) (by decide)
  have hU := User_pure 0 (by decide) (by decide)
  rw [show prinA (userP 0) = .st [.raw (.string ⟨#[97, 110, 110]⟩), .raw (.string ⟨#[]⟩), .raw (.string ⟨#[65, 84, 72]⟩)] by rfl] at hU
  have e1 : reqE true ⟨#[97, 110, 110]⟩ ⟨#[]⟩ ⟨#[65, 84, 72]⟩ 0 0 ⟨#[109, 97, 105, 108]⟩ ⟨#[]⟩ = .tup [.lst 1 ([4, 3, 97, 110, 110, 0, 0, 65, 84, 72, 0, 0, 0, 0, 0, 0, 109, 97, 105, 108, 0, 0].map byteA), .raw (.int .i64 0)] := by
    have c1 : reqChk true ⟨#[97, 110, 110]⟩ ⟨#[]⟩ ⟨#[65, 84, 72]⟩ 0 0 ⟨#[109, 97, 105, 108]⟩ ⟨#[]⟩ = 0 := by decide
    have c2 : reqB true ⟨#[97, 110, 110]⟩ ⟨#[]⟩ ⟨#[65, 84, 72]⟩ 0 0 ⟨#[109, 97, 105, 108]⟩ ⟨#[]⟩ = [4, 3, 97, 110, 110, 0, 0, 65, 84, 72, 0, 0, 0, 0, 0, 0, 109, 97, 105, 108, 0, 0] := by decide
    rw [reqE, c1, if_pos rfl, c2]
  rw [e1] at he
  unfold reqA at he
  refine AC.of_body (M := []) Tryz.func6 rfl (by kernel_rfl) (Nat.le_of_ble_eq_true rfl) ?_; simp only [Tryz.results6, Tryz.ntmps6]
  simp (dsimp := false) only [go_sem, ↓reduceIte, Nat.reduceEqDiff, Nat.reduceLT, Nat.reduceAdd, Nat.reduceSub, Nat.reduceMul, Nat.reduceLeDiff, reduceCtorEq, Int.reduceNeg, Int.reduceToNat, Int.reduceLT, Int.reduceLE, Int.reduceGE, Int.reduceGT, Int.reduceEq]
  refine ACs.pure hU ?_
  simp (dsimp := false) only [go_sem, ↓reduceIte, Nat.reduceEqDiff, Nat.reduceLT, Nat.reduceAdd, Nat.reduceSub, Nat.reduceMul, Nat.reduceLeDiff, reduceCtorEq, Int.reduceNeg, Int.reduceToNat, Int.reduceLT, Int.reduceLE, Int.reduceGE, Int.reduceGT, Int.reduceEq]
  refine ACs.pure he ?_
  have hb : byteA 4 = .raw (.int .u8 4) := rfl
  have hb' : byteA 3 = .raw (.int .u8 3) := rfl
  simp (dsimp := false) only [go_sem, ↓reduceIte, Nat.reduceEqDiff, Nat.reduceLT, Nat.reduceAdd, Nat.reduceSub, Nat.reduceMul, Nat.reduceLeDiff, reduceCtorEq, Int.reduceNeg, Int.reduceToNat, Int.reduceLT, Int.reduceLE, Int.reduceGE, Int.reduceGT, Int.reduceEq, hb, hb']
theorem TkOk.size' {n i r : ByteArray} {ad k li is : Int} {s t : ByteArray} (h : TkOk n i r ad k li is s t) : n.size ≤ 39 ∧ i.size ≤ 39 ∧ r.size ≤ 39 ∧ s.size ≤ 39 ∧ t.size ≤ 39 := by
  have a := validB_size h.1
  have b := nameB_size h.2.1
  have c := instB_size h.2.2.1
  omega
theorem request9_det (bs : List UInt8) (lt : Bool) (hb : bs.length ≤ 140737488355328) : ∃ d, PC Tryz.prog 8 [.lst 1 (bs.map byteA), .raw (.bool lt)] d ∧ ∃ n i r tm li s t, d = reqA lt n i r tm li s t ∧ reqOk lt n i r tm li s t ∧ n.size ≤ 39 ∧ i.size ≤ 39 ∧ r.size ≤ 39 ∧ s.size ≤ 39 ∧ t.size ≤ 39 := by
  obtain ⟨ad_, hA, lt', n, i, r, ad, k, li, is, s, t, hd, hok⟩ := Ticket_det bs hb
  have hz := hok.size'
  have hok' : reqOk lt n i r is li s t := by
    obtain ⟨h1, h2, h3, h4, h5, h6, h7, h8⟩ := hok
    unfold reqOk
    rw [reqChk, if_neg (by simp [h1, h2, h3]), if_neg (by omega)]
  refine ⟨reqA lt n i r is li s t, ?_, n, i, r, is, li, s, t, rfl, hok', hz⟩
  subst hd
  refine PC.of_ac ?_
  unfold ticketA at hA
  unfold reqA
  refine AC.of_body (M := []) Tryz.func8 rfl (by kernel_rfl) (Nat.le_of_ble_eq_true rfl) ?_; simp only [Tryz.results8, Tryz.ntmps8]
  simp (dsimp := false) only [go_sem, ↓reduceIte, Nat.reduceEqDiff, Nat.reduceLT, Nat.reduceAdd, Nat.reduceSub, Nat.reduceMul, Nat.reduceLeDiff, reduceCtorEq, Int.reduceNeg, Int.reduceToNat, Int.reduceLT, Int.reduceLE, Int.reduceGE, Int.reduceGT, Int.reduceEq]
  intro k1 hk1
  refine ACs.pure hA ?_
  simp (dsimp := false) only [go_sem, ↓reduceIte, Nat.reduceEqDiff, Nat.reduceLT, Nat.reduceAdd, Nat.reduceSub, Nat.reduceMul, Nat.reduceLeDiff, reduceCtorEq, Int.reduceNeg, Int.reduceToNat, Int.reduceLT, Int.reduceLE, Int.reduceGE, Int.reduceGT, Int.reduceEq]
  intro k2 hk2
  have q1 := none_ne hk2
  have a1 : ∀ (own : Own) o, (own.set k2 o) k1 = own k1 := fun own o => Own.set_ne _ _ (Ne.symm q1)
  have a2 : ∀ (own : Own) o, (own.set k1 o) k2 = own k2 := fun own o => Own.set_ne _ _ q1
  (try simp (dsimp := false) only [go_sem, ↓reduceIte, Nat.reduceEqDiff, Nat.reduceLT, Nat.reduceAdd, Nat.reduceSub, Nat.reduceMul, Nat.reduceLeDiff, reduceCtorEq, Int.reduceNeg, Int.reduceToNat, Int.reduceLT, Int.reduceLE, Int.reduceGE, Int.reduceGT, Int.reduceEq, a1, a2])
theorem reqB_length (lt : Bool) (n i r : ByteArray) (tm li : Int) (s t : ByteArray) : (reqB lt n i r tm li s t).length ≤ n.size + i.size + r.size + s.size + t.size + 20 := by
  rw [reqB, List.length_append, hdB_length, reqF_length]
  omega
end Go.Proofs.YtghnigbihllnmaaGreat.Fn
