/- A program logic with abstract values over the model: values, what represents them in memory, and when that stays so. No condition. -/

import Derived.Calls
import Derived.Orders
import Derived.Still
import Derived.Laws.Cells
import Derived.Laws.CopyRow
set_option linter.unusedVariables false
set_option linter.unusedSimpArgs false

namespace Go.Proofs.Ytenfgknhongaaaa.Hl
open Go

/-- Abstract values. -/
inductive AV where
  | raw (v : Value)
  | lst (wd : Nat) (l : List AV)
  | ref (d : AV)
  | clo (fn : Fn) (first cap : List AV)
  | st (cs : List AV)
  | tup (vs : List AV)
  | emp
  | any
  deriving Inhabited

abbrev Frz := Nat → Nat → Prop

/-- The cells of block k from off on hold vs, and are frozen. -/
def Holds (w : World) (F : Frz) (k off : Nat) (vs : List Value) : Prop :=
  ∀ i v, vs[i]? = some v → F k (off + i) ∧ w.cell? ⟨k, off + i, none⟩ = some v

mutual
/-- 'v' represents the abstract value. -/
def Rep (w : World) (F : Frz) : AV → Value → Prop
  | .raw x, v => v = x ∧ x.oneCell' = true
  | .lst wd l, v => ∃ A c, v = .slice A l.length c ∧ l.length ≤ c ∧ l.length ≤ 9223372036854775807 ∧
      (l ≠ [] → ∃ k off, A = some ⟨k, off, none⟩ ∧ RepL w F k off wd l)
  | .ref d, v => ∃ k off x, v = .pointer (some ⟨k, off, none⟩) ∧ Rep w F d x ∧ Holds w F k off x.cells.toList
  | .clo fn a b, v => ∃ xs ys, v = .func fn xs.toArray ys.toArray ∧ Reps w F a xs ∧ Reps w F b ys
  | .st cs, v => ∃ xs, v = .agg xs.toArray ∧ Reps w F cs xs ∧ ∀ x ∈ xs, x.oneCell' = true
  | .tup ds, v => ∃ xs, v = .tuple xs.toArray ∧ Reps w F ds xs
  | .emp, v => ∃ A, v = .slice A 0 0
  | .any, _ => True
def Reps (w : World) (F : Frz) : List AV → List Value → Prop
  | [], vs => vs = []
  | d :: ds, vs => ∃ x xs, vs = x :: xs ∧ Rep w F d x ∧ Reps w F ds xs
def RepL (w : World) (F : Frz) (k off wd : Nat) : List AV → Prop
  | [] => True
  | d :: ds => (∃ x, Rep w F d x ∧ x.cells.size = wd ∧ Holds w F k off x.cells.toList) ∧ RepL w F k (off + wd) wd ds
end

/-- Everything that was frozen is frozen, and reads as before. -/
def Kept (w : World) (F : Frz) (w' : World) (F' : Frz) : Prop :=
  ∀ k i, F k i → F' k i ∧ w'.cell? ⟨k, i, none⟩ = w.cell? ⟨k, i, none⟩

theorem Kept.refl (w : World) (F : Frz) : Kept w F w F := fun _ _ h => ⟨h, rfl⟩
theorem Kept.trans {w w1 w2 : World} {F F1 F2 : Frz} (h : Kept w F w1 F1) (h' : Kept w1 F1 w2 F2) : Kept w F w2 F2 :=
  fun k i hk => ⟨(h' k i (h k i hk).1).1, ((h' k i (h k i hk).1).2).trans (h k i hk).2⟩

theorem Holds.mono {w w' : World} {F F' : Frz} (hk : Kept w F w' F') {k off : Nat} {vs : List Value} (h : Holds w F k off vs) : Holds w' F' k off vs :=
  fun i v hi => ⟨(hk _ _ (h i v hi).1).1, (hk _ _ (h i v hi).1).2.trans (h i v hi).2⟩

mutual
theorem Rep.mono {w w' : World} {F F' : Frz} (hk : Kept w F w' F') : ∀ (d : AV) (v : Value), Rep w F d v → Rep w' F' d v
  | .raw x, v, h => by simpa [Rep] using h
  | .lst wd l, v, h => by
    simp only [Rep] at h ⊢
    obtain ⟨A, c, e, h1, h2, h3⟩ := h
    exact ⟨A, c, e, h1, h2, fun hl => by obtain ⟨k, off, ea, hr⟩ := h3 hl; exact ⟨k, off, ea, RepL.mono hk k off wd l hr⟩⟩
  | .ref d, v, h => by
    simp only [Rep] at h ⊢
    obtain ⟨k, off, x, e, h1, h2⟩ := h
    exact ⟨k, off, x, e, Rep.mono hk d x h1, h2.mono hk⟩
  | .clo fn a b, v, h => by
    simp only [Rep] at h ⊢
    obtain ⟨xs, ys, e, h1, h2⟩ := h
    exact ⟨xs, ys, e, Reps.mono hk a xs h1, Reps.mono hk b ys h2⟩
  | .st cs, v, h => by
    simp only [Rep] at h ⊢
    obtain ⟨xs, e, h1, h2⟩ := h
    exact ⟨xs, e, Reps.mono hk cs xs h1, h2⟩
  | .tup ds, v, h => by
    simp only [Rep] at h ⊢
    obtain ⟨xs, e, h1⟩ := h
    exact ⟨xs, e, Reps.mono hk ds xs h1⟩
  | .emp, v, h => by simpa [Rep] using h
  | .any, v, h => by simp [Rep]
theorem Reps.mono {w w' : World} {F F' : Frz} (hk : Kept w F w' F') : ∀ (ds : List AV) (vs : List Value), Reps w F ds vs → Reps w' F' ds vs
  | [], vs, h => by simpa [Reps] using h
  | d :: ds, vs, h => by
    simp only [Reps] at h ⊢
    obtain ⟨x, xs, e, h1, h2⟩ := h
    exact ⟨x, xs, e, Rep.mono hk d x h1, Reps.mono hk ds xs h2⟩
theorem RepL.mono {w w' : World} {F F' : Frz} (hk : Kept w F w' F') : ∀ (k off wd : Nat) (ds : List AV), RepL w F k off wd ds → RepL w' F' k off wd ds
  | k, off, wd, [], h => by simp [RepL]
  | k, off, wd, d :: ds, h => by
    simp only [RepL] at h ⊢
    obtain ⟨⟨x, h1, h2, h3⟩, h4⟩ := h
    exact ⟨⟨x, Rep.mono hk d x h1, h2, h3.mono hk⟩, RepL.mono hk k (off + wd) wd ds h4⟩
end

theorem Reps.length {w : World} {F : Frz} : ∀ {ds : List AV} {vs : List Value}, Reps w F ds vs → vs.length = ds.length
  | [], vs, h => by simp only [Reps] at h; simp [h]
  | d :: ds, vs, h => by
    simp only [Reps] at h
    obtain ⟨x, xs, rfl, h1, h2⟩ := h
    simp [Reps.length h2]
theorem Reps.get {w : World} {F : Frz} : ∀ {ds : List AV} {vs : List Value}, Reps w F ds vs → ∀ (i : Nat) (d : AV), ds[i]? = some d → ∃ x, vs[i]? = some x ∧ Rep w F d x
  | [], vs, h, i, d, hi => by simp at hi
  | d0 :: ds, vs, h, i, d, hi => by
    simp only [Reps] at h
    obtain ⟨x, xs, rfl, h1, h2⟩ := h
    cases i with
    | zero => simp at hi; subst hi; exact ⟨x, by simp, h1⟩
    | succ i => simp at hi ⊢; exact Reps.get h2 i d hi
theorem Reps.append {w : World} {F : Frz} : ∀ {ds es : List AV} {vs us : List Value}, Reps w F ds vs → Reps w F es us → Reps w F (ds ++ es) (vs ++ us)
  | [], es, vs, us, h, h' => by simp only [Reps] at h; subst h; simpa using h'
  | d :: ds, es, vs, us, h, h' => by
    simp only [Reps] at h
    obtain ⟨x, xs, rfl, h1, h2⟩ := h
    simp only [List.cons_append, Reps]
    exact ⟨x, xs ++ us, rfl, h1, Reps.append h2 h'⟩
theorem Reps.split {w : World} {F : Frz} : ∀ {ds es : List AV} {vs : List Value}, Reps w F (ds ++ es) vs → ∃ a b, vs = a ++ b ∧ Reps w F ds a ∧ Reps w F es b
  | [], es, vs, h => ⟨[], vs, by simp, by simp [Reps], by simpa using h⟩
  | d :: ds, es, vs, h => by
    simp only [List.cons_append, Reps] at h
    obtain ⟨x, xs, rfl, h1, h2⟩ := h
    obtain ⟨a, b, rfl, h3, h4⟩ := Reps.split h2
    exact ⟨x :: a, b, by simp, by simp only [Reps]; exact ⟨x, a, rfl, h1, h3⟩, h4⟩
theorem Reps.take {w : World} {F : Frz} : ∀ {ds : List AV} {vs : List Value}, Reps w F ds vs → ∀ (n : Nat), Reps w F (ds.take n) (vs.take n)
  | [], vs, h, n => by simp only [Reps] at h; subst h; simp [Reps]
  | d :: ds, vs, h, 0 => by simp [Reps]
  | d :: ds, vs, h, n + 1 => by
    simp only [Reps] at h
    obtain ⟨x, xs, rfl, h1, h2⟩ := h
    simp only [List.take_succ_cons, Reps]
    exact ⟨x, _, rfl, h1, Reps.take h2 n⟩
theorem Reps.drop {w : World} {F : Frz} : ∀ {ds : List AV} {vs : List Value}, Reps w F ds vs → ∀ (n : Nat), Reps w F (ds.drop n) (vs.drop n)
  | [], vs, h, n => by simp only [Reps] at h; subst h; simp [Reps]
  | d :: ds, vs, h, 0 => by simpa using h
  | d :: ds, vs, h, n + 1 => by
    simp only [Reps] at h
    obtain ⟨x, xs, rfl, h1, h2⟩ := h
    simp only [List.drop_succ_cons]
    exact Reps.drop h2 n

/-! ### Elements of a list -/
theorem RepL.get {w : World} {F : Frz} {k wd : Nat} : ∀ {ds : List AV} {off : Nat}, RepL w F k off wd ds → ∀ (i : Nat) (d : AV), ds[i]? = some d →
    ∃ x, Rep w F d x ∧ x.cells.size = wd ∧ Holds w F k (off + i * wd) x.cells.toList
  | [], off, h, i, d, hi => by simp at hi
  | d0 :: ds, off, h, i, d, hi => by
    simp only [RepL] at h
    cases i with
    | zero => simp at hi; subst hi; simpa using h.1
    | succ i =>
      simp at hi
      obtain ⟨x, h1, h2, h3⟩ := RepL.get h.2 i d hi
      exact ⟨x, h1, h2, by rw [show off + (i + 1) * wd = off + wd + i * wd by rw [Nat.add_mul]; omega]; exact h3⟩
theorem RepL.of_get {w : World} {F : Frz} {k wd : Nat} : ∀ (ds : List AV) (off : Nat), (∀ (i : Nat) (d : AV), ds[i]? = some d → ∃ x, Rep w F d x ∧ x.cells.size = wd ∧ Holds w F k (off + i * wd) x.cells.toList) → RepL w F k off wd ds
  | [], off, h => by simp [RepL]
  | d0 :: ds, off, h => by
    simp only [RepL]
    refine ⟨by simpa using h 0 d0 (by simp), RepL.of_get ds (off + wd) fun i d hi => ?_⟩
    obtain ⟨x, h1, h2, h3⟩ := h (i + 1) d (by simpa using hi)
    exact ⟨x, h1, h2, by rw [show off + wd + i * wd = off + (i + 1) * wd by rw [Nat.add_mul]; omega]; exact h3⟩
theorem RepL.sub {w : World} {F : Frz} {k off wd : Nat} {ds : List AV} (h : RepL w F k off wd ds) (a n : Nat) : RepL w F k (off + a * wd) wd ((ds.drop a).take n) :=
  RepL.of_get _ _ fun i d hi => by
    have hi' : ds[a + i]? = some d := by
      rw [List.getElem?_take] at hi
      split at hi
      · simpa using hi
      · simp at hi
    obtain ⟨x, h1, h2, h3⟩ := h.get (a + i) d hi'
    exact ⟨x, h1, h2, by rw [show off + a * wd + i * wd = off + (a + i) * wd by rw [Nat.add_mul]; omega]; exact h3⟩

theorem Addr.add_plain (k off n : Nat) : (⟨k, off, none⟩ : Addr).add n = ⟨k, off + n, none⟩ := by
  unfold Addr.add
  split <;> simp_all

/-! ### Objects of the call's own -/
/-- A block of cells that the call may write: its type, what its first cells hold, how many of them are frozen, how many cells it has. -/
structure OB where
  T : TypeId
  cs : List AV
  fz : Nat
  cap : Nat

def OwnAt (w : World) (F : Frz) (k : Nat) (o : OB) : Prop :=
  ∃ arr, w.heap[k]? = some (.cells arr o.T (0, 0)) ∧ arr.size = o.cap ∧ o.cs.length ≤ o.cap ∧ Reps w F o.cs (arr.toList.take o.cs.length) ∧
    (∀ x ∈ arr.toList.take o.cs.length, x.oneCell' = true) ∧ (∀ i, F k i → i < o.fz) ∧ o.fz ≤ o.cs.length

abbrev Own := Nat → Option OB
def noOwn : Own := fun _ => none
structure Base where
  w : World
  F : Frz
  own : Own

structure WS (B : Base) (w : World) (F : Frz) (own : Own) : Prop where
  os : w.os = B.w.os
  tape : w.tape = B.w.tape
  output : w.output = B.w.output
  size : B.w.heap.size ≤ w.heap.size
  keep : ∀ b, b < B.w.heap.size → B.own b = none → w.heap[b]? = B.w.heap[b]? ∧ own b = none ∧ ∀ i, F b i → B.F b i
  kept : Kept B.w B.F w F
  wf : ∀ k i, F k i → k < w.heap.size
  owns : ∀ k o, own k = some o → OwnAt w F k o

theorem OwnAt.lt {w : World} {F : Frz} {k : Nat} {o : OB} (h : OwnAt w F k o) : k < w.heap.size := by
  obtain ⟨arr, h1, _⟩ := h
  exact (Array.getElem?_eq_some_iff.1 h1).1

theorem WS.fresh {B : Base} {w : World} {F : Frz} {own : Own} (h : WS B w F own) {k : Nat} (hk : w.heap.size ≤ k) : own k = none := by
  cases ho : own k with
  | none => rfl
  | some o => have := (h.owns k o ho).lt; omega

theorem WS.here {B : Base} {w : World} {F : Frz} {own : Own} (h : WS B w F own) : WS ⟨w, F, own⟩ w F own :=
  ⟨rfl, rfl, rfl, Nat.le_refl _, fun b _ hb => ⟨rfl, hb, fun _ hi => hi⟩, Kept.refl _ _, h.wf, h.owns⟩

theorem WS.trans {B : Base} {w w' : World} {F F' : Frz} {own own' : Own} (h : WS B w F own) (h' : WS ⟨w, F, own⟩ w' F' own') : WS B w' F' own' where
  os := h'.os.trans h.os
  tape := h'.tape.trans h.tape
  output := h'.output.trans h.output
  size := Nat.le_trans h.size h'.size
  keep b hb ho := by
    obtain ⟨e1, e2, e3⟩ := h.keep b hb ho
    obtain ⟨f1, f2, f3⟩ := h'.keep b (Nat.lt_of_lt_of_le hb h.size) e2
    exact ⟨f1.trans e1, f2, fun i hi => e3 i (f3 i hi)⟩
  kept := h.kept.trans h'.kept
  wf := h'.wf
  owns := h'.owns

/-- Dropping objects. -/
theorem WS.drop {B : Base} {w : World} {F : Frz} {own own' : Own} (h : WS B w F own) (hd : ∀ k o, own' k = some o → own k = some o) : WS B w F own' where
  os := h.os
  tape := h.tape
  output := h.output
  size := h.size
  keep b hb ho := by
    obtain ⟨e1, e2, e3⟩ := h.keep b hb ho
    refine ⟨e1, ?_, e3⟩
    cases hq : own' b with
    | none => rfl
    | some o => rw [hd b o hq] at e2; cases e2
  kept := h.kept
  wf := h.wf
  owns k o ho := h.owns k o (hd k o ho)

/-- The world's drawn count moves. -/
theorem cell?_drawn (w : World) (n : Nat) (a : Addr) : ({ w with drawn := n } : World).cell? a = w.cell? a := rfl

theorem OwnAt.mono {w w' : World} {F F' : Frz} {k : Nat} {o : OB} (h : OwnAt w F k o) (hk : Kept w F w' F') (hh : w'.heap[k]? = w.heap[k]?) (hf : ∀ i, F' k i → F k i) : OwnAt w' F' k o := by
  obtain ⟨arr, h1, h2, h3, h4, h5, h6, h7⟩ := h
  exact ⟨arr, hh.trans h1, h2, h3, h4.mono hk, h5, fun i hi => h6 i (hf i hi), h7⟩
end Go.Proofs.Ytenfgknhongaaaa.Hl
