/- A program logic with abstract values over the model, part 1: values, worlds, operations that write nothing. -/
import Derived.Calls
import Derived.Orders
import Derived.Still
import Derived.Laws.Cells
import Derived.Laws.CopyRow
import Derived.Laws.Slices
import Derived.Laws.BytesArg
set_option linter.unusedVariables false
set_option linter.unusedSimpArgs false
/- A program logic with abstract values over the model: values, what represents them in memory, and when that stays so. No condition. -/

set_option linter.unusedVariables false
set_option linter.unusedSimpArgs false

namespace Go.Proofs.YtghnigbihllnmaaGreat.Hl
open Go

/-- Abstract values. -/
inductive AV where
  | raw (v : Value)
  | lst (wd : Nat) (l : List AV)
  | ref (d : AV)
  | clo (fn : Fn) (first cap : List AV)
  | st (cs : List AV)
  | tup (vs : List AV)
  | emp
  | any
  deriving Inhabited

abbrev Frz := Nat → Nat → Prop

/-- The cells of block k from off on hold vs, and are frozen. -/
def Holds (w : World) (F : Frz) (k off : Nat) (vs : List Value) : Prop :=
  ∀ i v, vs[i]? = some v → F k (off + i) ∧ w.cell? ⟨k, off + i, none⟩ = some v

mutual
/-- 'v' represents the abstract value. -/
def Rep (w : World) (F : Frz) : AV → Value → Prop
  | .raw x, v => v = x ∧ x.oneCell' = true
  | .lst wd l, v => ∃ A c, v = .slice A l.length c ∧ l.length ≤ c ∧ l.length ≤ 9223372036854775807 ∧
      (l ≠ [] → ∃ k off, A = some ⟨k, off, none⟩ ∧ RepL w F k off wd l)
  | .ref d, v => ∃ k off x, v = .pointer (some ⟨k, off, none⟩) ∧ Rep w F d x ∧ Holds w F k off x.cells.toList
  | .clo fn a b, v => ∃ xs ys, v = .func fn xs.toArray ys.toArray ∧ Reps w F a xs ∧ Reps w F b ys
  | .st cs, v => ∃ xs, v = .agg xs.toArray ∧ Reps w F cs xs ∧ ∀ x ∈ xs, x.oneCell' = true
  | .tup ds, v => ∃ xs, v = .tuple xs.toArray ∧ Reps w F ds xs
  | .emp, v => ∃ A, v = .slice A 0 0
  | .any, _ => True
def Reps (w : World) (F : Frz) : List AV → List Value → Prop
  | [], vs => vs = []
  | d :: ds, vs => ∃ x xs, vs = x :: xs ∧ Rep w F d x ∧ Reps w F ds xs
def RepL (w : World) (F : Frz) (k off wd : Nat) : List AV → Prop
  | [] => True
  | d :: ds => (∃ x, Rep w F d x ∧ x.cells.size = wd ∧ Holds w F k off x.cells.toList) ∧ RepL w F k (off + wd) wd ds
end

/-- Everything that was frozen is frozen, and reads as before. -/
def Kept (w : World) (F : Frz) (w' : World) (F' : Frz) : Prop :=
  ∀ k i, F k i → F' k i ∧ w'.cell? ⟨k, i, none⟩ = w.cell? ⟨k, i, none⟩

theorem Kept.refl (w : World) (F : Frz) : Kept w F w F := fun _ _ h => ⟨h, rfl⟩
theorem Kept.trans {w w1 w2 : World} {F F1 F2 : Frz} (h : Kept w F w1 F1) (h' : Kept w1 F1 w2 F2) : Kept w F w2 F2 :=
  fun k i hk => ⟨(h' k i (h k i hk).1).1, ((h' k i (h k i hk).1).2).trans (h k i hk).2⟩

theorem Holds.mono {w w' : World} {F F' : Frz} (hk : Kept w F w' F') {k off : Nat} {vs : List Value} (h : Holds w F k off vs) : Holds w' F' k off vs :=
  fun i v hi => ⟨(hk _ _ (h i v hi).1).1, (hk _ _ (h i v hi).1).2.trans (h i v hi).2⟩

mutual
theorem Rep.mono {w w' : World} {F F' : Frz} (hk : Kept w F w' F') : ∀ (d : AV) (v : Value), Rep w F d v → Rep w' F' d v
  | .raw x, v, h => by simpa [Rep] using h
  | .lst wd l, v, h => by
    simp only [Rep] at h ⊢
    obtain ⟨A, c, e, h1, h2, h3⟩ := h
    exact ⟨A, c, e, h1, h2, fun hl => by obtain ⟨k, off, ea, hr⟩ := h3 hl; exact ⟨k, off, ea, RepL.mono hk k off wd l hr⟩⟩
  | .ref d, v, h => by
    simp only [Rep] at h ⊢
    obtain ⟨k, off, x, e, h1, h2⟩ := h
    exact ⟨k, off, x, e, Rep.mono hk d x h1, h2.mono hk⟩
  | .clo fn a b, v, h => by
    simp only [Rep] at h ⊢
    obtain ⟨xs, ys, e, h1, h2⟩ := h
    exact ⟨xs, ys, e, Reps.mono hk a xs h1, Reps.mono hk b ys h2⟩
  | .st cs, v, h => by
    simp only [Rep] at h ⊢
    obtain ⟨xs, e, h1, h2⟩ := h
    exact ⟨xs, e, Reps.mono hk cs xs h1, h2⟩
  | .tup ds, v, h => by
    simp only [Rep] at h ⊢
    obtain ⟨xs, e, h1⟩ := h
    exact ⟨xs, e, Reps.mono hk ds xs h1⟩
  | .emp, v, h => by simpa [Rep] using h
  | .any, v, h => by simp [Rep]
theorem Reps.mono {w w' : World} {F F' : Frz} (hk : Kept w F w' F') : ∀ (ds : List AV) (vs : List Value), Reps w F ds vs → Reps w' F' ds vs
  | [], vs, h => by simpa [Reps] using h
  | d :: ds, vs, h => by
    simp only [Reps] at h ⊢
    obtain ⟨x, xs, e, h1, h2⟩ := h
    exact ⟨x, xs, e, Rep.mono hk d x h1, Reps.mono hk ds xs h2⟩
theorem RepL.mono {w w' : World} {F F' : Frz} (hk : Kept w F w' F') : ∀ (k off wd : Nat) (ds : List AV), RepL w F k off wd ds → RepL w' F' k off wd ds
  | k, off, wd, [], h => by simp [RepL]
  | k, off, wd, d :: ds, h => by
    simp only [RepL] at h ⊢
    obtain ⟨⟨x, h1, h2, h3⟩, h4⟩ := h
    exact ⟨⟨x, Rep.mono hk d x h1, h2, h3.mono hk⟩, RepL.mono hk k (off + wd) wd ds h4⟩
end

theorem Reps.length {w : World} {F : Frz} : ∀ {ds : List AV} {vs : List Value}, Reps w F ds vs → vs.length = ds.length
  | [], vs, h => by simp only [Reps] at h; simp [h]
  | d :: ds, vs, h => by
    simp only [Reps] at h
    obtain ⟨x, xs, rfl, h1, h2⟩ := h
    simp [Reps.length h2]
theorem Reps.get {w : World} {F : Frz} : ∀ {ds : List AV} {vs : List Value}, Reps w F ds vs → ∀ (i : Nat) (d : AV), ds[i]? = some d → ∃ x, vs[i]? = some x ∧ Rep w F d x
  | [], vs, h, i, d, hi => by simp at hi
  | d0 :: ds, vs, h, i, d, hi => by
    simp only [Reps] at h
    obtain ⟨x, xs, rfl, h1, h2⟩ := h
    cases i with
    | zero => simp at hi; subst hi; exact ⟨x, by simp, h1⟩
    | succ i => simp at hi ⊢; exact Reps.get h2 i d hi
theorem Reps.append {w : World} {F : Frz} : ∀ {ds es : List AV} {vs us : List Value}, Reps w F ds vs → Reps w F es us → Reps w F (ds ++ es) (vs ++ us)
  | [], es, vs, us, h, h' => by simp only [Reps] at h; subst h; simpa using h'
  | d :: ds, es, vs, us, h, h' => by
    simp only [Reps] at h
    obtain ⟨x, xs, rfl, h1, h2⟩ := h
    simp only [List.cons_append, Reps]
    exact ⟨x, xs ++ us, rfl, h1, Reps.append h2 h'⟩
theorem Reps.split {w : World} {F : Frz} : ∀ {ds es : List AV} {vs : List Value}, Reps w F (ds ++ es) vs → ∃ a b, vs = a ++ b ∧ Reps w F ds a ∧ Reps w F es b
  | [], es, vs, h => ⟨[], vs, by simp, by simp [Reps], by simpa using h⟩
  | d :: ds, es, vs, h => by
    simp only [List.cons_append, Reps] at h
    obtain ⟨x, xs, rfl, h1, h2⟩ := h
    obtain ⟨a, b, rfl, h3, h4⟩ := Reps.split h2
    exact ⟨x :: a, b, by simp, by simp only [Reps]; exact ⟨x, a, rfl, h1, h3⟩, h4⟩
theorem Reps.take {w : World} {F : Frz} : ∀ {ds : List AV} {vs : List Value}, Reps w F ds vs → ∀ (n : Nat), Reps w F (ds.take n) (vs.take n)
  | [], vs, h, n => by simp only [Reps] at h; subst h; simp [Reps]
  | d :: ds, vs, h, 0 => by simp [Reps]
  | d :: ds, vs, h, n + 1 => by
    simp only [Reps] at h
    obtain ⟨x, xs, rfl, h1, h2⟩ := h
    simp only [List.take_succ_cons, Reps]
    exact ⟨x, _, rfl, h1, Reps.take h2 n⟩
theorem Reps.drop {w : World} {F : Frz} : ∀ {ds : List AV} {vs : List Value}, Reps w F ds vs → ∀ (n : Nat), Reps w F (ds.drop n) (vs.drop n)
  | [], vs, h, n => by simp only [Reps] at h; subst h; simp [Reps]
  | d :: ds, vs, h, 0 => by simpa using h
  | d :: ds, vs, h, n + 1 => by
    simp only [Reps] at h
    obtain ⟨x, xs, rfl, h1, h2⟩ := h
    simp only [List.drop_succ_cons]
    exact Reps.drop h2 n

/-! ### Elements of a list -/
theorem RepL.get {w : World} {F : Frz} {k wd : Nat} : ∀ {ds : List AV} {off : Nat}, RepL w F k off wd ds → ∀ (i : Nat) (d : AV), ds[i]? = some d →
    ∃ x, Rep w F d x ∧ x.cells.size = wd ∧ Holds w F k (off + i * wd) x.cells.toList
  | [], off, h, i, d, hi => by simp at hi
  | d0 :: ds, off, h, i, d, hi => by
    simp only [RepL] at h
    cases i with
    | zero => simp at hi; subst hi; simpa using h.1
    | succ i =>
      simp at hi
      obtain ⟨x, h1, h2, h3⟩ := RepL.get h.2 i d hi
      exact ⟨x, h1, h2, by rw [show off + (i + 1) * wd = off + wd + i * wd by rw [Nat.add_mul]; omega]; exact h3⟩
theorem RepL.of_get {w : World} {F : Frz} {k wd : Nat} : ∀ (ds : List AV) (off : Nat), (∀ (i : Nat) (d : AV), ds[i]? = some d → ∃ x, Rep w F d x ∧ x.cells.size = wd ∧ Holds w F k (off + i * wd) x.cells.toList) → RepL w F k off wd ds
  | [], off, h => by simp [RepL]
  | d0 :: ds, off, h => by
    simp only [RepL]
    refine ⟨by simpa using h 0 d0 (by simp), RepL.of_get ds (off + wd) fun i d hi => ?_⟩
    obtain ⟨x, h1, h2, h3⟩ := h (i + 1) d (by simpa using hi)
    exact ⟨x, h1, h2, by rw [show off + wd + i * wd = off + (i + 1) * wd by rw [Nat.add_mul]; omega]; exact h3⟩
theorem RepL.sub {w : World} {F : Frz} {k off wd : Nat} {ds : List AV} (h : RepL w F k off wd ds) (a n : Nat) : RepL w F k (off + a * wd) wd ((ds.drop a).take n) :=
  RepL.of_get _ _ fun i d hi => by
    have hi' : ds[a + i]? = some d := by
      rw [List.getElem?_take] at hi
      split at hi
      · simpa using hi
      · simp at hi
    obtain ⟨x, h1, h2, h3⟩ := h.get (a + i) d hi'
    exact ⟨x, h1, h2, by rw [show off + a * wd + i * wd = off + (a + i) * wd by rw [Nat.add_mul]; omega]; exact h3⟩

theorem Addr.add_plain (k off n : Nat) : (⟨k, off, none⟩ : Addr).add n = ⟨k, off + n, none⟩ := by
  unfold Addr.add
  split <;> simp_all

/-! ### Objects of the call's own -/
/-- A block of cells that the call may write: its type, what its first cells hold, how many of them are frozen, how many cells it has. -/
structure OB where
  T : TypeId
  cs : List AV
  fz : Nat
  cap : Nat

def OwnAt (w : World) (F : Frz) (k : Nat) (o : OB) : Prop :=
  ∃ arr, w.heap[k]? = some (.cells arr o.T (0, 0)) ∧ arr.size = o.cap ∧ o.cs.length ≤ o.cap ∧ Reps w F o.cs (arr.toList.take o.cs.length) ∧
    (∀ x ∈ arr.toList.take o.cs.length, x.oneCell' = true) ∧ (∀ i, F k i → i < o.fz) ∧ o.fz ≤ o.cs.length

abbrev Own := Nat → Option OB
def noOwn : Own := fun _ => none
structure Base where
  w : World
  F : Frz
  own : Own

structure WS (B : Base) (w : World) (F : Frz) (own : Own) : Prop where
  os : w.os = B.w.os
  tape : w.tape = B.w.tape
  output : w.output = B.w.output
  size : B.w.heap.size ≤ w.heap.size
  keep : ∀ b, b < B.w.heap.size → B.own b = none → w.heap[b]? = B.w.heap[b]? ∧ own b = none ∧ ∀ i, F b i → B.F b i
  kept : Kept B.w B.F w F
  wf : ∀ k i, F k i → k < w.heap.size
  owns : ∀ k o, own k = some o → OwnAt w F k o

theorem OwnAt.lt {w : World} {F : Frz} {k : Nat} {o : OB} (h : OwnAt w F k o) : k < w.heap.size := by
  obtain ⟨arr, h1, _⟩ := h
  exact (Array.getElem?_eq_some_iff.1 h1).1

theorem WS.fresh {B : Base} {w : World} {F : Frz} {own : Own} (h : WS B w F own) {k : Nat} (hk : w.heap.size ≤ k) : own k = none := by
  cases ho : own k with
  | none => rfl
  | some o => have := (h.owns k o ho).lt; omega

theorem WS.here {B : Base} {w : World} {F : Frz} {own : Own} (h : WS B w F own) : WS ⟨w, F, own⟩ w F own :=
  ⟨rfl, rfl, rfl, Nat.le_refl _, fun b _ hb => ⟨rfl, hb, fun _ hi => hi⟩, Kept.refl _ _, h.wf, h.owns⟩

theorem WS.trans {B : Base} {w w' : World} {F F' : Frz} {own own' : Own} (h : WS B w F own) (h' : WS ⟨w, F, own⟩ w' F' own') : WS B w' F' own' where
  os := h'.os.trans h.os
  tape := h'.tape.trans h.tape
  output := h'.output.trans h.output
  size := Nat.le_trans h.size h'.size
  keep b hb ho := by
    obtain ⟨e1, e2, e3⟩ := h.keep b hb ho
    obtain ⟨f1, f2, f3⟩ := h'.keep b (Nat.lt_of_lt_of_le hb h.size) e2
    exact ⟨f1.trans e1, f2, fun i hi => e3 i (f3 i hi)⟩
  kept := h.kept.trans h'.kept
  wf := h'.wf
  owns := h'.owns

/-- Dropping objects. -/
theorem WS.drop {B : Base} {w : World} {F : Frz} {own own' : Own} (h : WS B w F own) (hd : ∀ k o, own' k = some o → own k = some o) : WS B w F own' where
  os := h.os
  tape := h.tape
  output := h.output
  size := h.size
  keep b hb ho := by
    obtain ⟨e1, e2, e3⟩ := h.keep b hb ho
    refine ⟨e1, ?_, e3⟩
    cases hq : own' b with
    | none => rfl
    | some o => rw [hd b o hq] at e2; cases e2
  kept := h.kept
  wf := h.wf
  owns k o ho := h.owns k o (hd k o ho)

/-- The world's drawn count moves. -/
theorem cell?_drawn (w : World) (n : Nat) (a : Addr) : ({ w with drawn := n } : World).cell? a = w.cell? a := rfl

theorem OwnAt.mono {w w' : World} {F F' : Frz} {k : Nat} {o : OB} (h : OwnAt w F k o) (hk : Kept w F w' F') (hh : w'.heap[k]? = w.heap[k]?) (hf : ∀ i, F' k i → F k i) : OwnAt w' F' k o := by
  obtain ⟨arr, h1, h2, h3, h4, h5, h6, h7⟩ := h
  exact ⟨arr, hh.trans h1, h2, h3, h4.mono hk, h5, fun i hi => h6 i (hf i hi), h7⟩
end Go.Proofs.YtghnigbihllnmaaGreat.Hl

/- The logic's view of types, and what one operation that writes nothing comes to. No condition. -/
set_option linter.unusedVariables false
set_option linter.unusedSimpArgs false

namespace Go.Proofs.YtghnigbihllnmaaGreat.Hl
open Go

/-! ### Types -/
inductive TK where
  | bool | int (k : IntKind) | str | ptr (e : Nat) | slc (e : Nat) | arr (n e : Nat) | st (fs : List (Nat × Nat × Bool)) | map (k e : Nat) | fn | iface | other
  deriving Inhabited
def TK.of : TypeDesc → TK
  | .bool => .bool | .int k => .int k | .string => .str | .pointer e => .ptr e | .slice e => .slc e | .array n e => .arr n e
  | .struct fs => .st (fs.toList.map fun f => (f.offset, f.type, f.name != "_")) | .map k e => .map k e | .func .. => .fn | .interface .. => .iface | _ => .other
def TK.agg : TK → Bool
  | .st _ | .arr _ _ => true
  | _ => false
structure TI where
  k : TK
  size : Nat
  bytes : Nat
  zero : List Value
def ti (P : Program) (t : Nat) : Option TI :=
  match P.info? t, P.underlying t with
  | some i, some d => match i.zero with
    | some z => some ⟨TK.of d, i.size, i.bytes, z.cells.toList⟩
    | none => none
  | _, _ => none
theorem ti_spec {P : Program} {t : Nat} {i : TI} (h : ti P t = some i) : ∃ info d z, P.info? t = some info ∧ P.underlying t = some d ∧ i.k = TK.of d ∧
    info.size = i.size ∧ info.bytes = i.bytes ∧ info.zero = some z ∧ z.cells.toList = i.zero := by
  unfold ti at h
  split at h
  · rename_i info d h1 h2
    split at h
    · rename_i z hz
      injection h with h
      subst h
      exact ⟨info, d, z, h1, h2, rfl, rfl, rfl, hz, rfl⟩
    · cases h
  · cases h

section
variable {P : Program} {w : World}
theorem run_underlying {t : Nat} {d : TypeDesc} (h : P.underlying t = some d) : (underlying t).run P w = .ok d w := by
  simp [underlying, h]
theorem run_typeInfo {t : Nat} {i : TypeInfo} (h : P.info? t = some i) : (typeInfo t).run P w = .ok i w := by
  simp [typeInfo, h]
theorem run_sizeOf {t : Nat} {i : TypeInfo} (h : P.info? t = some i) : (sizeOf t).run P w = .ok i.size w := by
  simp [sizeOf, run_typeInfo h]
theorem run_zeroValue {t : Nat} {i : TypeInfo} {z : Value} (h : P.info? t = some i) (hz : i.zero = some z) : (zeroValue t).run P w = .ok z w := by
  simp [zeroValue, run_typeInfo h, hz]
theorem run_isAgg {t : Nat} {d : TypeDesc} (h : P.underlying t = some d) : (isAgg t).run P w = .ok (TK.of d).agg w := by
  simp only [isAgg, Sem.run_bind, run_underlying h, Result.andThen_ok]
  cases d <;> rfl
end

/-! ### Values' cells -/
def cellsA : AV → List AV
  | .st cs => cs
  | d => [d]
def mkA (agg : Bool) (cs : List AV) : AV := match agg, cs with
  | true, cs => .st cs
  | false, d :: _ => d
  | false, [] => .any
def fitA (i : TI) : AV → Prop
  | .st cs => i.k.agg = true ∧ cs.length = i.size
  | .tup _ | .any => False
  | _ => i.k.agg = false ∧ i.size = 1

theorem cells_one {x : Value} (h : x.oneCell' = true) : x.cells = #[x] := by cases x <;> simp_all [Value.oneCell', Value.cells]

def oneA : AV → Bool
  | .st _ | .tup _ | .any => false
  | _ => true
theorem Rep.one {w : World} {F : Frz} {d : AV} {x : Value} (h : Rep w F d x) (hd : oneA d = true) : x.oneCell' = true := by
  cases d <;> simp only [oneA] at hd <;> first | cases hd | skip
  all_goals simp only [Rep] at h
  · exact h.1 ▸ h.2
  · obtain ⟨A, c, rfl, _⟩ := h; rfl
  · obtain ⟨k, off, y, rfl, _⟩ := h; rfl
  · obtain ⟨xs, ys, rfl, _⟩ := h; rfl
  · obtain ⟨A, rfl⟩ := h; rfl

/-- A value that fits its type, and its cells. -/
theorem Rep.cells {w : World} {F : Frz} {d : AV} {x : Value} {i : TI} (h : Rep w F d x) (hf : fitA i d) :
    x.cells.size = i.size ∧ Reps w F (cellsA d) x.cells.toList ∧ (∀ y ∈ x.cells.toList, y.oneCell' = true) ∧ (cellsA d).length = i.size ∧
    (i.k.agg = true → x = .agg x.cells) ∧ (i.k.agg = false → x.cells = #[x]) := by
  cases d with
  | st cs =>
    simp only [fitA] at hf
    simp only [Rep] at h
    obtain ⟨xs, rfl, h1, h2⟩ := h
    refine ⟨?_, ?_, ?_, hf.2, fun _ => rfl, fun hh => ?_⟩
    · simpa [Value.cells, h1.length] using hf.2
    · simpa [Value.cells, cellsA] using h1
    · simpa [Value.cells] using h2
    · rw [hf.1] at hh; cases hh
  | tup ds => exact hf.elim
  | any => exact hf.elim
  | _ =>
    simp only [fitA] at hf
    have h1 := cells_one (h.one rfl)
    refine ⟨by simp [h1, hf.2], ?_, ?_, by simp [cellsA, hf.2], fun hh => ?_, fun _ => h1⟩
    · rw [h1]; simp only [cellsA, Reps]; exact ⟨_, _, rfl, h, rfl⟩
    · rw [h1]; simpa using h.one rfl
    · rw [hf.1] at hh; cases hh

theorem mkA_cellsA {d : AV} {i : TI} (hf : fitA i d) : mkA i.k.agg (cellsA d) = d := by
  cases d <;> simp only [fitA] at hf
  all_goals first | exact hf.elim | (rw [hf.1]; rfl)

/-- Cells that are one value of a type. -/
theorem Rep.of_cells {w : World} {F : Frz} {cs : List AV} {xs : List Value} {i : TI} (h : Reps w F cs xs) (h1 : ∀ y ∈ xs, y.oneCell' = true) (hn : cs.length = i.size) (hs : i.k.agg = false → i.size = 1) :
    Rep w F (mkA i.k.agg cs) (if i.k.agg then .agg xs.toArray else xs.headD undef) := by
  cases ha : i.k.agg with
  | true => simp only [mkA, if_true, Rep]; exact ⟨xs, rfl, h, h1⟩
  | false =>
    have := hs ha
    obtain ⟨d, rfl⟩ : ∃ d, cs = [d] := by
      cases cs with
      | nil => simp at hn; omega
      | cons d ds => cases ds with
        | nil => exact ⟨d, rfl⟩
        | cons e es => simp at hn; omega
    simp only [Reps] at h
    obtain ⟨x, ys, rfl, hx, rfl⟩ := h
    simpa [mkA] using hx

/-! ### Loading from memory -/
theorem run_loadVar {P : Program} {w : World} {t : Nat} {i : TI} (hi : ti P t = some i) {k off : Nat} {xs : List Value} (hn : xs.length = i.size) (hs : i.k.agg = false → i.size = 1)
    (h : ∀ j v, xs[j]? = some v → w.cell? ⟨k, off + j, none⟩ = some v) :
    (loadVar t ⟨k, off, none⟩).run P w = .ok (if i.k.agg then .agg xs.toArray else xs.headD undef) w := by
  obtain ⟨info, d, z, e1, e2, e3, e4, e5, e6, e7⟩ := ti_spec hi
  unfold loadVar
  rw [Sem.run_bind, run_isAgg e2, Result.andThen_ok, ← e3]
  cases ha : i.k.agg with
  | true =>
    simp only [if_true, Sem.run_bind, run_sizeOf e1, Result.andThen_ok, e4]
    rw [← hn, run_loadCells_list w ⟨k, off, none⟩ xs (fun j v hj => by rw [Addr.add_plain]; exact h j v hj)]
    rfl
  | false =>
    have h1 := hs ha
    obtain ⟨x, rfl⟩ : ∃ x, xs = [x] := by
      cases xs with
      | nil => simp at hn; omega
      | cons d ds => cases ds with
        | nil => exact ⟨d, rfl⟩
        | cons e es => simp at hn; omega
    have := h 0 x rfl
    simp only [Nat.add_zero] at this
    simp [run_load, this]
end Go.Proofs.YtghnigbihllnmaaGreat.Hl

/- What an operation that writes nothing comes to: its value as a function of its operands' abstract values. No condition. -/
set_option linter.unusedVariables false
set_option linter.unusedSimpArgs false

namespace Go.Proofs.YtghnigbihllnmaaGreat.Hl
open Go

/-- The world grows; what was there stays as it was; more may be frozen, but nothing that was there. -/
structure Ext (w : World) (F : Frz) (w' : World) (F' : Frz) : Prop where
  os : w'.os = w.os
  tape : w'.tape = w.tape
  output : w'.output = w.output
  size : w.heap.size ≤ w'.heap.size
  old : ∀ b, b < w.heap.size → w'.heap[b]? = w.heap[b]? ∧ ∀ i, F' b i → F b i
  kept : Kept w F w' F'
  wf : ∀ k i, F' k i → k < w'.heap.size

theorem Ext.refl {w : World} {F : Frz} (hf : ∀ k i, F k i → k < w.heap.size) : Ext w F w F :=
  ⟨rfl, rfl, rfl, Nat.le_refl _, fun _ _ => ⟨rfl, fun _ h => h⟩, Kept.refl _ _, hf⟩
theorem Ext.trans {w w1 w2 : World} {F F1 F2 : Frz} (h : Ext w F w1 F1) (h' : Ext w1 F1 w2 F2) : Ext w F w2 F2 where
  os := h'.os.trans h.os
  tape := h'.tape.trans h.tape
  output := h'.output.trans h.output
  size := Nat.le_trans h.size h'.size
  old b hb := by
    have h1 := h.old b hb
    have h2 := h'.old b (Nat.lt_of_lt_of_le hb h.size)
    exact ⟨h2.1.trans h1.1, fun i hi => h1.2 i (h2.2 i hi)⟩
  kept := h.kept.trans h'.kept
  wf := h'.wf
theorem Ext.ws {w w' : World} {F F' : Frz} {own : Own} (h : Ext w F w' F') (ho : ∀ k o, own k = some o → OwnAt w F k o) : WS ⟨w, F, own⟩ w' F' own where
  os := h.os
  tape := h.tape
  output := h.output
  size := h.size
  keep b hb hn := ⟨(h.old b hb).1, hn, (h.old b hb).2⟩
  kept := h.kept
  wf := h.wf
  owns k o hk := (ho k o hk).mono h.kept (h.old k (ho k o hk).lt).1 (h.old k (ho k o hk).lt).2
theorem Ext.of_ws {w w' : World} {F F' : Frz} {own' : Own} (h : WS ⟨w, F, noOwn⟩ w' F' own') : Ext w F w' F' where
  os := h.os
  tape := h.tape
  output := h.output
  size := h.size
  old b hb := ⟨(h.keep b hb rfl).1, (h.keep b hb rfl).2.2⟩
  kept := h.kept
  wf := h.wf
theorem Ext.drawn {w : World} {F : Frz} (hf : ∀ k i, F k i → k < w.heap.size) (n : Nat) : Ext w F { w with drawn := n } F :=
  ⟨rfl, rfl, rfl, Nat.le_refl _, fun _ _ => ⟨rfl, fun _ h => h⟩, fun _ _ h => ⟨h, rfl⟩, hf⟩

/-- A new block, frozen at once. -/
def FrzNew (F : Frz) (k n : Nat) : Frz := fun b i => F b i ∨ (b = k ∧ i < n)
theorem cell?_push_old (w : World) (o : Obj) (k i : Nat) (hk : k < w.heap.size) : ({ w with heap := w.heap.push o } : World).cell? ⟨k, i, none⟩ = w.cell? ⟨k, i, none⟩ := by
  have : (w.heap.push o)[k]? = w.heap[k]? := by rw [Array.getElem?_push]; simp [Nat.ne_of_lt hk]
  simp only [World.cell?, this]
theorem heap_push_old (h : Array Obj) (o : Obj) (k : Nat) (hk : k < h.size) : (h.push o)[k]? = h[k]? := by
  rw [Array.getElem?_push]; simp [Nat.ne_of_lt hk]
theorem Ext.push {w : World} {F : Frz} (hf : ∀ k i, F k i → k < w.heap.size) (o : Obj) (n : Nat) : Ext w F { w with heap := w.heap.push o } (FrzNew F w.heap.size n) where
  os := rfl
  tape := rfl
  output := rfl
  size := by simp
  old b hb := ⟨heap_push_old _ _ _ hb, fun i hi => hi.elim id fun h => by omega⟩
  kept k i hk := ⟨.inl hk, cell?_push_old w o k i (hf k i hk)⟩
  wf k i hi := by rcases hi with h | ⟨rfl, _⟩ <;> simp; exact Nat.lt_succ_of_lt (hf k i h)
theorem Holds.new (w : World) (F : Frz) (arr : Array Value) (T : Nat) (m : Nat × Nat) (off n : Nat) (vs : List Value) (hn : off + vs.length ≤ n)
    (h : ∀ i v, vs[i]? = some v → arr[off + i]? = some v) : Holds { w with heap := w.heap.push (.cells arr T m) } (FrzNew F w.heap.size n) w.heap.size off vs := by
  intro i v hi
  have hlt : i < vs.length := by
    rcases Nat.lt_or_ge i vs.length with h' | h'
    · exact h'
    · rw [List.getElem?_eq_none h'] at hi; cases hi
  refine ⟨.inr ⟨rfl, by omega⟩, ?_⟩
  have : (w.heap.push (.cells arr T m))[w.heap.size]? = some (.cells arr T m) := by simp
  simp only [World.cell?, this, Option.isSome_none, Bool.false_eq_true, if_false]
  exact h i v hi

/-- What the run of an operation has to come to. -/
def OpRes (P : Program) (o : Oper) (ev : Operand → Value) (w : World) (R : Value → World → Prop) : Prop :=
  match (execOp ev o).run P w with
  | .ok (.value v) w' => R v w'
  | .ok .skip w' => R undef w'
  | .ok (.enter f args) w' => Calls P f args w' fun e w'' => ∃ v, e = .returned v ∧ R v w''
  | _ => False

theorem OpRes.mono {P : Program} {o : Oper} {ev : Operand → Value} {w : World} {R R' : Value → World → Prop} (h : OpRes P o ev w R) (hr : ∀ v w', R v w' → R' v w') : OpRes P o ev w R' := by
  unfold OpRes at *
  split at h <;> first | exact hr _ _ h | (exact h.mono fun e w'' he => by obtain ⟨v, e1, h1⟩ := he; exact ⟨v, e1, hr _ _ h1⟩) | exact h.elim

theorem OpRes.wp {P : Program} {o : Oper} {a : Act} {w : World} {R : Value → World → Prop} {next : Act → World → Prop} {Q : Exit → Act → World → Prop} (h : OpRes P o a.eval w R)
    (hr : ∀ v w', R v w' → next (a.put o.dst v) w') : o.wp P a w next Q := by
  unfold OpRes at h
  unfold Oper.wp
  split at h
  · rename_i v w' e; rw [e]; exact hr _ _ h
  · rename_i w' e; rw [e]; exact hr _ _ h
  · rename_i f args w' e
    rw [e]
    exact h.mono fun e w'' he => by obtain ⟨v, rfl, h1⟩ := he; exact hr _ _ h1
  · exact h.elim

theorem OpRes.congr {P : Program} {o : Oper} {ev ev' : Operand → Value} {w : World} {R : Value → World → Prop} (h : OpRes P o ev w R) (he : execOp ev' o = execOp ev o) : OpRes P o ev' w R := by
  unfold OpRes at *; rw [he]; exact h

/-- The frozen cells lie in blocks that are there. -/
abbrev WF (w : World) (F : Frz) : Prop := ∀ k i, F k i → k < w.heap.size
abbrev Owns (w : World) (F : Frz) (own : Own) : Prop := ∀ k o, own k = some o → OwnAt w F k o

/-- An operation that writes nothing, at such operands and such objects of the call's own, comes to such a value. -/
def VSem (P : Program) (o : Oper) (ρ : Operand → AV) (own : Own) (d : AV) : Prop :=
  ∀ w F (ev : Operand → Value), WF w F → Owns w F own → (∀ x ∈ o.op.operands, Rep w F (ρ x) (ev x)) →
    OpRes P o ev w fun v w' => ∃ F', Ext w F w' F' ∧ Rep w' F' d v

theorem VSem.congr {P : Program} {o : Oper} {ρ ρ' : Operand → AV} {own : Own} {d : AV} (h : VSem P o ρ own d) (he : ∀ x ∈ o.op.operands, ρ' x = ρ x) : VSem P o ρ' own d :=
  fun w F ev hf ho hr => h w F ev hf ho fun x hx => he x hx ▸ hr x hx
theorem VSem.owned {P : Program} {o : Oper} {ρ : Operand → AV} {own : Own} {d : AV} (h : VSem P o ρ noOwn d) : VSem P o ρ own d :=
  fun w F ev hf _ hr => h w F ev hf (fun _ _ h => by cases h) hr

/-- The usual way: the run is a value, the world stays. -/
theorem VSem.of_run {P : Program} {o : Oper} {ρ : Operand → AV} {own : Own} {d : AV}
    (h : ∀ w F (ev : Operand → Value), WF w F → Owns w F own → (∀ x ∈ o.op.operands, Rep w F (ρ x) (ev x)) → ∃ v, (execOp ev o).run P w = .ok (.value v) w ∧ Rep w F d v) : VSem P o ρ own d := by
  intro w F ev hf ho hr
  obtain ⟨v, e, h1⟩ := h w F ev hf ho hr
  unfold OpRes
  rw [e]
  exact ⟨F, Ext.refl hf, h1⟩

/-! ### Moves -/
theorem vs_move {P : Program} {o : Oper} {ρ : Operand → AV} {own : Own} {x : Operand} (h : o.op = .move x) : VSem P o ρ own (ρ x) :=
  VSem.of_run fun w F ev _ _ hr => ⟨ev x, by simp [execOp, h], hr x (by simp [h, Op.operands])⟩
theorem vs_assign {P : Program} {o : Oper} {ρ : Operand → AV} {own : Own} {x : Operand} (h : o.op = .assign x) : VSem P o ρ own (ρ x) :=
  VSem.of_run fun w F ev _ _ hr => ⟨ev x, by simp [execOp, h], hr x (by simp [h, Op.operands])⟩

def pickA (t : Bool) : AV → AV → AV
  | .raw (.bool x), .raw (.bool y) => .raw (.bool (match t with | true => x | false => y))
  | x, y => match t with | true => x | false => y
theorem pickA_eq (t : Bool) (x y : AV) : pickA t x y = if t then x else y := by
  unfold pickA
  split <;> cases t <;> rfl
theorem vs_pick {P : Program} {o : Oper} {ρ : Operand → AV} {own : Own} {c a b : Operand} {t : Bool} (h : o.op = .pick c a b) (hc : ρ c = .raw (.bool t)) : VSem P o ρ own (pickA t (ρ a) (ρ b)) :=
  VSem.of_run fun w F ev _ _ hr => by
    have h1 := hr c (by simp [h, Op.operands])
    rw [hc] at h1
    simp only [Rep] at h1
    refine ⟨if t then ev a else ev b, by cases t <;> simp [execOp, h, h1.1, asBool], ?_⟩
    rw [pickA_eq]
    cases t
    · exact hr b (by simp [h, Op.operands])
    · exact hr a (by simp [h, Op.operands])

/-! ### Scalars -/
def binV (op : BinOp) (x y : Value) : Option (Prop × Value) :=
  match op, x, y with
  | .add, .int k a, .int k' b => some (k = k', .int k (k.wrap (a + b)))
  | .sub, .int k a, .int k' b => some (k = k', .int k (k.wrap (a - b)))
  | .mul, .int k a, .int k' b => some (k = k', .int k (k.wrap (a * b)))
  | .quo, .int k a, .int k' b => some (k = k' ∧ b ≠ 0, .int k (k.wrap (a.tdiv b)))
  | .rem, .int k a, .int k' b => some (k = k' ∧ b ≠ 0, .int k (a.tmod b))
  | .and, .int k a, .int k' b => some (k = k', .int k (k.wrap (BitVec.ofInt k.bits a &&& BitVec.ofInt k.bits b).toNat))
  | .or, .int k a, .int k' b => some (k = k', .int k (k.wrap (BitVec.ofInt k.bits a ||| BitVec.ofInt k.bits b).toNat))
  | .xor, .int k a, .int k' b => some (k = k', .int k (k.wrap (BitVec.ofInt k.bits a ^^^ BitVec.ofInt k.bits b).toNat))
  | .shl, .int k a, .int _ b => some (0 ≤ b, .int k (k.wrap (a * 2 ^ (min b.toNat k.bits))))
  | .shr, .int k a, .int _ b => some (0 ≤ b, .int k (a.fdiv (2 ^ (min b.toNat k.bits))))
  | .eql, .int k a, .int k' b => some (k = k', .bool (decide (a = b)))
  | .neq, .int k a, .int k' b => some (k = k', .bool (!decide (a = b)))
  | .lss, .int k a, .int k' b => some (k = k', .bool (decide (a < b)))
  | .leq, .int k a, .int k' b => some (k = k', .bool (decide (a ≤ b)))
  | .gtr, .int k a, .int k' b => some (k = k', .bool (decide (a > b)))
  | .geq, .int k a, .int k' b => some (k = k', .bool (decide (a ≥ b)))
  | .add, .string a, .string b => some (((a.size + b.size : Nat) : Int) ≤ 9223372036854775807, .string (a ++ b))
  | .eql, .string a, .string b => some (True, .bool (a.toList == b.toList))
  | .neq, .string a, .string b => some (True, .bool (!(a.toList == b.toList)))
  | .lss, .string a, .string b => some (True, .bool (Op.bytesLess a.toList b.toList))
  | .leq, .string a, .string b => some (True, .bool (Op.bytesLess a.toList b.toList || a.toList == b.toList))
  | .gtr, .string a, .string b => some (True, .bool (!(Op.bytesLess a.toList b.toList || a.toList == b.toList)))
  | .geq, .string a, .string b => some (True, .bool (!Op.bytesLess a.toList b.toList))
  | _, _, _ => none

theorem run_eqGuard_raw (P : Program) (w : World) (op : BinOp) (t : Nat) (x y : Operand) (a b : Value) (ha : match a with | .agg _ | .nilIface => False | _ => True) : (eqGuard op t x y a b).run P w = .ok () w := by
  unfold eqGuard
  cases op <;> simp <;> (cases a <;> simp at ha ⊢)

theorem binV_run {P : Program} {w : World} {op : BinOp} {T : Nat} {x y : Operand} {a b v : Value} {c : Prop} (h : binV op a b = some (c, v)) (hc : c) :
    (do eqGuard op T x y a b; binOp op T a b : Sem Value).run P w = .ok v w := by
  have hg : (eqGuard op T x y a b).run P w = .ok () w := by
    refine run_eqGuard_raw P w op T x y a b ?_
    cases a <;> simp <;> (cases op <;> simp [binV] at h)
  rw [Sem.run_bind, hg, Result.andThen_ok]
  unfold binV at h
  split at h <;> first
    | (injection h with h; injection h with h1 h2; subst h1; subst h2; skip)
    | cases h
  all_goals (try subst hc)
  all_goals first
    | (simp [binOp, Op.intArith, Op.intCmp, Op.intBits]; done)
    | (obtain ⟨rfl, hb⟩ := hc; simp [binOp, Op.intDiv, hb]; done)
    | (have hc' : ¬ _ < (0 : Int) := Int.not_lt.2 hc; simp [binOp, Op.shift, hc']; done)
    | (simp [binOp, Op.stringOp]; done)
    | skip
  all_goals first
    | (simp only [binOp, Op.intCmp]; simp; rfl)
    | (simp only [binOp, Op.intCmp]; rfl)
    | skip
  · simp only [binOp, Op.stringOp]
    rw [if_neg (by rw [show IntKind.i64.max = 9223372036854775807 from by decide]; omega)]
    rfl
end Go.Proofs.YtghnigbihllnmaaGreat.Hl

/- What an operation that writes nothing comes to, continued: memory that is read, structs, slices, conversions. No condition. -/
set_option linter.unusedVariables false
set_option linter.unusedSimpArgs false

namespace Go.Proofs.YtghnigbihllnmaaGreat.Hl
open Go

theorem vs_raw {P : Program} {o : Oper} {ρ : Operand → AV} {own : Own} {v : Value} (hv : v.oneCell' = true)
    (h : ∀ w F (ev : Operand → Value), (∀ x ∈ o.op.operands, Rep w F (ρ x) (ev x)) → (execOp ev o).run P w = .ok (.value v) w) : VSem P o ρ own (.raw v) :=
  VSem.of_run fun w F ev _ _ hr => ⟨v, h w F ev hr, by simp [Rep, hv]⟩

theorem binV_one {op : BinOp} {a b v : Value} {c : Prop} (h : binV op a b = some (c, v)) : v.oneCell' = true := by
  unfold binV at h
  split at h <;> first
    | (injection h with h; injection h with h1 h2; subst h2; rfl)
    | cases h

theorem vs_bin {P : Program} {o : Oper} {ρ : Operand → AV} {own : Own} {op : BinOp} {T T' : Nat} {x y : Operand} {a b v : Value} {c : Prop} (h : o.op = .binOp op T x y T') (hx : ρ x = .raw a) (hy : ρ y = .raw b)
    (hv : binV op a b = some (c, v)) (hc : c) : VSem P o ρ own (.raw v) :=
  vs_raw (binV_one hv) fun w F ev hr => by
    have h1 := hr x (by simp [h, Op.operands])
    have h2 := hr y (by simp [h, Op.operands])
    rw [hx] at h1
    rw [hy] at h2
    simp only [Rep] at h1 h2
    have := binV_run (P := P) (w := w) (T := T) (x := x) (y := y) hv hc
    simp only [execOp, h, h1.1, h2.1]
    rw [Sem.run_bind, this]
    rfl

/-- '==' at bools, and at a slice, a pointer or a function value against nil. -/
def binE (op : BinOp) (k : TK) (x y : AV) : Option AV :=
  match op, k, x, y with
  | .eql, .bool, .raw (.bool a), .raw (.bool b) => some (.raw (.bool (a == b)))
  | .neq, .bool, .raw (.bool a), .raw (.bool b) => some (.raw (.bool (!(a == b))))
  | .eql, .slc _, .raw (.slice none _ _), .raw (.slice none _ _) => some (.raw (.bool true))
  | .neq, .slc _, .raw (.slice none _ _), .raw (.slice none _ _) => some (.raw (.bool false))
  | .eql, .slc _, .raw (.slice (some _) _ _), .raw (.slice none _ _) => some (.raw (.bool false))
  | .neq, .slc _, .raw (.slice (some _) _ _), .raw (.slice none _ _) => some (.raw (.bool true))
  | .eql, .ptr _, .raw (.pointer (some _)), .raw (.pointer none) => some (.raw (.bool false))
  | .neq, .ptr _, .raw (.pointer (some _)), .raw (.pointer none) => some (.raw (.bool true))
  | .eql, .ptr _, .raw (.pointer none), .raw (.pointer none) => some (.raw (.bool true))
  | .neq, .ptr _, .raw (.pointer none), .raw (.pointer none) => some (.raw (.bool false))
  | .eql, .ptr _, .ref _, .raw (.pointer none) => some (.raw (.bool false))
  | .neq, .ptr _, .ref _, .raw (.pointer none) => some (.raw (.bool true))
  | _, _, _, _ => none

section
variable {P : Program} {w : World} {T : Nat}
theorem run_equal_bool (e2 : P.underlying T = some .bool) (a b : Bool) : (Op.equal T (.bool a) (.bool b)).run P w = .ok (a == b) w := by
  unfold Op.equal Op.maxDepth Op.equalIn
  simp only [Sem.run_bind, run_underlying e2, Result.andThen_ok, Sem.run_pure]
theorem run_equal_sl {e : Nat} (e2 : P.underlying T = some (.slice e)) (A : Option Addr) (n c n' c' : Nat) : (Op.equal T (.slice A n c) (.slice none n' c')).run P w = .ok A.isNone w := by
  unfold Op.equal Op.maxDepth Op.equalIn
  cases A <;> simp only [Sem.run_bind, run_underlying e2, Result.andThen_ok, Sem.run_pure, Option.isNone]
theorem run_equal_ptr {e : Nat} (e2 : P.underlying T = some (.pointer e)) (A : Option Addr) : (Op.equal T (.pointer A) (.pointer none)).run P w = .ok A.isNone w := by
  unfold Op.equal Op.maxDepth Op.equalIn
  cases A <;> simp only [Sem.run_bind, run_underlying e2, Result.andThen_ok, Sem.run_pure, Option.isNone]
end
def eqK : Value → Bool
  | .bool _ | .slice .. | .pointer _ => true
  | _ => false
theorem run_eql {P : Program} {w : World} {T : Nat} {x y : Operand} {a b : Value} {t : Bool} (h : (Op.equal T a b).run P w = .ok t w) (ha : eqK a = true) (hb : eqK b = true) :
    (do eqGuard .eql T x y a b; binOp .eql T a b : Sem Value).run P w = .ok (.bool t) w ∧ (do eqGuard .neq T x y a b; binOp .neq T a b : Sem Value).run P w = .ok (.bool (!t)) w := by
  have hg : ∀ op, (eqGuard op T x y a b).run P w = .ok () w := fun op => run_eqGuard_raw P w op T x y a b (by cases a <;> simp [eqK] at ha ⊢)
  rw [Sem.run_bind, hg, Result.andThen_ok, Sem.run_bind, hg, Result.andThen_ok]
  have e1 : binOp .eql T a b = (do pure (.bool (← Op.equal T a b))) := by cases a <;> first | (simp [eqK] at ha; done) | (cases b <;> first | (simp [eqK] at hb; done) | rfl)
  have e2 : binOp .neq T a b = (do pure (.bool (!(← Op.equal T a b)))) := by cases a <;> first | (simp [eqK] at ha; done) | (cases b <;> first | (simp [eqK] at hb; done) | rfl)
  rw [e1, e2, Sem.run_bind, Sem.run_bind, h]
  exact ⟨rfl, rfl⟩

theorem TK.of_bool {td : TypeDesc} (h : TK.of td = .bool) : td = .bool := by cases td <;> simp [TK.of] at h ⊢
theorem TK.of_str {td : TypeDesc} (h : TK.of td = .str) : td = .string := by cases td <;> simp [TK.of] at h ⊢
theorem TK.of_int {td : TypeDesc} {k : IntKind} (h : TK.of td = .int k) : td = .int k := by cases td <;> simp [TK.of] at h ⊢; exact h
theorem TK.of_slc {td : TypeDesc} {e : Nat} (h : TK.of td = .slc e) : ∃ e, td = .slice e := by cases td <;> simp [TK.of] at h ⊢
theorem TK.of_ptr {td : TypeDesc} {e : Nat} (h : TK.of td = .ptr e) : ∃ e, td = .pointer e := by cases td <;> simp [TK.of] at h ⊢
theorem vs_binE {P : Program} {o : Oper} {ρ : Operand → AV} {own : Own} {op : BinOp} {T T' : Nat} {x y : Operand} {i : TI} {d : AV} (h : o.op = .binOp op T x y T') (hi : ti P T = some i)
    (hd : binE op i.k (ρ x) (ρ y) = some d) : VSem P o ρ own d := by
  obtain ⟨info, td, z, e1, e2, e3, e4, e5, e6, e7⟩ := ti_spec hi
  refine VSem.of_run fun w F ev _ _ hr => ?_
  have h1 := hr x (by simp [h, Op.operands])
  have h2 := hr y (by simp [h, Op.operands])
  generalize ρ x = dx at *
  generalize ρ y = dy at *
  rw [e3] at hd
  have key : ∀ (v : Value), (do eqGuard op T x y (ev x) (ev y); binOp op T (ev x) (ev y) : Sem Value).run P w = .ok v w → (execOp ev o).run P w = .ok (.value v) w := fun v hv => by
    simp only [execOp, h]
    rw [Sem.run_bind, hv]
    rfl
  have k1 : ∀ {t : Bool}, (Op.equal T (ev x) (ev y)).run P w = .ok t w → eqK (ev x) = true → eqK (ev y) = true → (op = .eql → d = .raw (.bool t)) → (op = .neq → d = .raw (.bool (!t))) → (op = .eql ∨ op = .neq) →
      ∃ v, (execOp ev o).run P w = .ok (.value v) w ∧ Rep w F d v := by
    intro t he ha hb q1 q2 q3
    have := run_eql (x := x) (y := y) he ha hb
    rcases q3 with rfl | rfl
    · rw [q1 rfl]; exact ⟨_, key _ this.1, by simp [Rep, Value.oneCell']⟩
    · rw [q2 rfl]; exact ⟨_, key _ this.2, by simp [Rep, Value.oneCell']⟩
  clear key
  unfold binE at hd
  split at hd <;> first
    | (injection hd with hd; subst hd)
    | cases hd
  all_goals
    rename_i ht
    simp only [Rep] at h1 h2
    first
      | (have e2' := TK.of_bool ht ▸ e2; refine k1 (by rw [h1.1, h2.1]; exact run_equal_bool e2' _ _) (by rw [h1.1]; rfl) (by rw [h2.1]; rfl) (by simp) (by simp) (by simp); done)
      | (obtain ⟨el, hel⟩ := TK.of_slc ht; have e2' := hel ▸ e2; refine k1 (by rw [h1.1, h2.1]; exact run_equal_sl e2' _ _ _ _ _) (by rw [h1.1]; rfl) (by rw [h2.1]; rfl) (by simp) (by simp) (by simp); done)
      | (obtain ⟨el, hel⟩ := TK.of_ptr ht; have e2' := hel ▸ e2; refine k1 (by rw [h1.1, h2.1]; exact run_equal_ptr e2' _) (by rw [h1.1]; rfl) (by rw [h2.1]; rfl) (by simp) (by simp) (by simp); done)
      | (obtain ⟨k, off, y, h1, _⟩ := h1; obtain ⟨el, hel⟩ := TK.of_ptr ht; have e2' := hel ▸ e2; refine k1 (by rw [h1, h2.1]; exact run_equal_ptr e2' _) (by rw [h1]; rfl) (by rw [h2.1]; rfl) (by simp) (by simp) (by simp); done)

def unV (op : UnOp) (x : Value) : Option Value :=
  match op, x with
  | .not, .bool b => some (.bool (!b))
  | .neg, .int k n => some (.int k (k.wrap (0 - n)))
  | _, _ => none
theorem vs_un {P : Program} {o : Oper} {ρ : Operand → AV} {own : Own} {op : UnOp} {T : Nat} {x : Operand} {a v : Value} (h : o.op = .unOp op T x) (hx : ρ x = .raw a) (hv : unV op a = some v) : VSem P o ρ own (.raw v) := by
  refine vs_raw ?_ fun w F ev hr => ?_
  · unfold unV at hv
    split at hv <;> first | (injection hv with hv; subst hv; rfl) | cases hv
  · have h1 := hr x (by simp [h, Op.operands])
    rw [hx] at h1
    simp only [Rep] at h1
    unfold unV at hv
    split at hv <;> first
      | (injection hv with hv; subst hv; simp [execOp, h, h1.1, Op.unary, Op.intArith])
      | cases hv

/-! ### Memory that is read -/
/-- A value of one or more cells out of a list of cells. -/
def partA (agg : Bool) (off size : Nat) (cs : List AV) : AV := match agg with
  | true => .st ((cs.drop off).take size)
  | false => cs.getD off .any
theorem partA_eq {agg : Bool} {off size : Nat} {cs : List AV} (h : off + size ≤ cs.length) (hs : agg = false → size = 1) : partA agg off size cs = mkA agg ((cs.drop off).take size) := by
  cases agg with
  | true => rfl
  | false =>
    have := hs rfl
    subst this
    have hlt : off < cs.length := by omega
    have e : (cs.drop off).take 1 = [cs[off]] := by rw [List.drop_eq_getElem_cons hlt]; rfl
    rw [e]
    simp [partA, mkA, List.getD_eq_getElem?_getD, hlt]
def loadA (i : TI) (x : AV) (own : Own) : Option (Prop × AV) :=
  match x with
  | .ref d => some (fitA i d, d)
  | .raw (.pointer (some ⟨k, off, none⟩)) => match own k with
    | some o => some (off + i.size ≤ o.cs.length ∧ (i.k.agg = false → i.size = 1), partA i.k.agg off i.size o.cs)
    | none => none
  | _ => none

theorem OwnAt.cells {w : World} {F : Frz} {k : Nat} {o : OB} (h : OwnAt w F k o) (off n : Nat) (hn : off + n ≤ o.cs.length) :
    ∃ xs : List Value, xs.length = n ∧ (∀ j v, xs[j]? = some v → w.cell? ⟨k, off + j, none⟩ = some v) ∧ Reps w F ((o.cs.drop off).take n) xs ∧ ∀ y ∈ xs, y.oneCell' = true := by
  obtain ⟨arr, h1, h2, h3, h4, h5, h6, h7⟩ := h
  refine ⟨((arr.toList.take o.cs.length).drop off).take n, ?_, fun j v hj => ?_, (h4.drop off).take n, fun y hy => h5 y (List.mem_of_mem_drop (List.mem_of_mem_take hy))⟩
  · simp; omega
  · rw [List.getElem?_take] at hj
    split at hj
    · rw [List.getElem?_drop, List.getElem?_take] at hj
      split at hj
      · simp only [World.cell?, h1]
        simpa using hj
      · cases hj
    · cases hj

theorem vs_load {P : Program} {o : Oper} {ρ : Operand → AV} {own : Own} {T : Nat} {x : Operand} {i : TI} {c : Prop} {d : AV} (h : o.op = .load T x) (hi : ti P T = some i) (hd : loadA i (ρ x) own = some (c, d)) (hc : c) : VSem P o ρ own d := by
  refine VSem.of_run fun w F ev hf ho hr => ?_
  have h1 := hr x (by simp [h, Op.operands])
  generalize ρ x = dx at *
  unfold loadA at hd
  split at hd
  · rename_i d0
    injection hd with hd; injection hd with hd1 hd2; subst hd1; subst hd2
    simp only [Rep] at h1
    obtain ⟨k, off, y, e, hy, hh⟩ := h1
    obtain ⟨g1, g2, g3, g4, g5, g6⟩ := hy.cells hc
    refine ⟨y, ?_, hy⟩
    have hs : i.k.agg = false → i.size = 1 := fun ha => by have := g6 ha; rw [this] at g1; simpa using g1.symm
    have := run_loadVar (w := w) hi (k := k) (off := off) (xs := y.cells.toList) (by simpa using g1) hs (fun j v hj => (hh j v hj).2)
    simp only [execOp, h, e, Instr.loadAt, Instr.sureAddr, Sem.run_bind, Sem.run_pure, Result.andThen_ok, this]
    cases ha : i.k.agg with
    | true => simp; exact (g5 ha).symm
    | false => simp [g6 ha]
  · rename_i k off
    split at hd
    · rename_i ob hob
      injection hd with hd; injection hd with hd1 hd2; subst hd1; subst hd2
      simp only [Rep] at h1
      obtain ⟨xs, g1, g2, g3, g4⟩ := (ho k ob hob).cells off i.size hc.1
      refine ⟨_, ?_, partA_eq hc.1 hc.2 ▸ Rep.of_cells g3 g4 (by simp; omega) hc.2⟩
      have := run_loadVar (w := w) hi (k := k) (off := off) (xs := xs) g1 hc.2 g2
      simp only [execOp, h, h1.1, Instr.loadAt, Instr.sureAddr, Sem.run_bind, Sem.run_pure, Result.andThen_ok, this]
    · cases hd
  · cases hd

theorem vs_load_run {P : Program} {w : World} {F : Frz} {own : Own} {T k off : Nat} {i : TI} {c : Prop} {x d : AV} (hi : ti P T = some i) (hd : loadA i x own = some (c, d)) (hc : c) (ho : Owns w F own) (h1 : Rep w F x (.pointer (some ⟨k, off, none⟩))) :
    ∃ v, (loadVar T ⟨k, off, none⟩).run P w = .ok v w ∧ Rep w F d v := by
  unfold loadA at hd
  split at hd
  · rename_i d0
    injection hd with hd; injection hd with hd1 hd2; subst hd1; subst hd2
    simp only [Rep] at h1
    obtain ⟨k', off', y, e, hy, hh⟩ := h1
    injection e with e; injection e with e; injection e with e1 e2; subst e1; subst e2
    obtain ⟨g1, g2, g3, g4, g5, g6⟩ := hy.cells hc
    refine ⟨y, ?_, hy⟩
    have hs : i.k.agg = false → i.size = 1 := fun ha => by have := g6 ha; rw [this] at g1; simpa using g1.symm
    have := run_loadVar (w := w) hi (k := k) (off := off) (xs := y.cells.toList) (by simpa using g1) hs (fun j v hj => (hh j v hj).2)
    rw [this]
    cases ha : i.k.agg with
    | true => simp; exact (g5 ha).symm
    | false => simp [g6 ha]
  · rename_i k' off'
    split at hd
    · rename_i ob hob
      injection hd with hd; injection hd with hd1 hd2; subst hd1; subst hd2
      simp only [Rep] at h1
      have e := h1.1
      injection e with e; injection e with e; injection e with e1 e2; subst e1; subst e2
      obtain ⟨xs, g1, g2, g3, g4⟩ := (ho k ob hob).cells off i.size hc.1
      exact ⟨_, run_loadVar (w := w) hi (k := k) (off := off) (xs := xs) g1 hc.2 g2, partA_eq hc.1 hc.2 ▸ Rep.of_cells g3 g4 (by simp; omega) hc.2⟩
    · cases hd
  · cases hd

def nilA (x : AV) : Option AV :=
  match x with
  | .ref d => some (.ref d)
  | .raw (.pointer (some a)) => some (.raw (.pointer (some a)))
  | .clo (.func f) a b => some (.clo (.func f) a b)
  | .raw (.func (.func f) a b) => some (.raw (.func (.func f) a b))
  | _ => none
theorem vs_nil {P : Program} {o : Oper} {ρ : Operand → AV} {own : Own} {x : Operand} {d : AV} (h : o.op = .nilCheck x) (hd : nilA (ρ x) = some d) : VSem P o ρ own d := by
  refine VSem.of_run fun w F ev hf ho hr => ⟨ev x, ?_, ?_⟩
  all_goals
    have h1 := hr x (by simp [h, Op.operands])
    generalize ρ x = dx at *
    unfold nilA at hd
    split at hd <;> first
      | (injection hd with hd; subst hd)
      | cases hd
  · simp only [Rep] at h1; obtain ⟨k, off, y, e, _⟩ := h1; simp [execOp, h, e]
  · simp only [Rep] at h1; simp [execOp, h, h1.1]
  · simp only [Rep] at h1; obtain ⟨xs, ys, e, _⟩ := h1; simp [execOp, h, e]
  · simp only [Rep] at h1; simp [execOp, h, h1.1]
  all_goals exact h1

theorem take_one_drop {α : Type} {xs : List α} {g : Nat} (h : g < xs.length) : (xs.drop g).take 1 = [xs[g]] := by
  rw [List.drop_eq_getElem_cons h]; rfl

/-! ### Fields -/
structure FI where
  off : Nat
  size : Nat
  agg : Bool
def fi (P : Program) (S f : Nat) : Option FI :=
  match P.underlying S with
  | some (.struct fs) => match fs[f]? with
    | some g => match ti P g.type with
      | some i => some ⟨g.offset, i.size, i.k.agg⟩
      | none => none
    | none => none
  | _ => none
theorem fi_spec {P : Program} {S f : Nat} {q : FI} (h : fi P S f = some q) : ∃ fs g i, P.underlying S = some (.struct fs) ∧ fs[f]? = some g ∧ ti P g.type = some i ∧ q = ⟨g.offset, i.size, i.k.agg⟩ := by
  unfold fi at h
  split at h
  · rename_i fs h1
    split at h
    · rename_i g h2
      split at h
      · rename_i i h3
        injection h with h
        exact ⟨fs, g, i, h1, h2, h3, h.symm⟩
      · cases h
    · cases h
  · cases h

def subA (q : FI) (cs : List AV) : AV := partA q.agg q.off q.size cs
def subOk (q : FI) (cs : List AV) : Prop := q.off + q.size ≤ cs.length ∧ q.size ≠ 0 ∧ (q.agg = false → q.size = 1)

theorem Reps.sub {w : World} {F : Frz} {cs : List AV} {xs : List Value} {q : FI} (h : Reps w F cs xs) (h1 : ∀ y ∈ xs, y.oneCell' = true) (hq : subOk q cs) :
    Rep w F (subA q cs) (if q.agg then .agg ((xs.drop q.off).take q.size).toArray else ((xs.drop q.off).take q.size).headD undef) := by
  obtain ⟨h2, h3, h4⟩ := hq
  have := Rep.of_cells (i := ⟨if q.agg then .arr 0 0 else .other, q.size, 0, []⟩) ((h.drop q.off).take q.size) (fun y hy => h1 y (List.mem_of_mem_drop (List.mem_of_mem_take hy))) (by simp; omega)
    (fun ha => h4 (by cases hq : q.agg <;> simp [hq, TK.agg] at ha ⊢))
  unfold subA
  rw [partA_eq h2 h4]
  cases hq : q.agg <;> simpa [hq, TK.agg] using this

def fieldA (q : FI) (x : AV) : Option (Prop × AV) :=
  match x with
  | .st cs => some (subOk q cs, subA q cs)
  | _ => none
theorem vs_field {P : Program} {o : Oper} {ρ : Operand → AV} {own : Own} {S f : Nat} {x : Operand} {q : FI} {c : Prop} {d : AV} (h : o.op = .field S x f) (hq : fi P S f = some q) (hd : fieldA q (ρ x) = some (c, d)) (hc : c) : VSem P o ρ own d := by
  refine VSem.of_run fun w F ev hf ho hr => ?_
  have h1 := hr x (by simp [h, Op.operands])
  generalize ρ x = dx at *
  unfold fieldA at hd
  split at hd
  · rename_i cs
    injection hd with hd; injection hd with hd1 hd2; subst hd1; subst hd2
    simp only [Rep] at h1
    obtain ⟨xs, e, hx, h1x⟩ := h1
    refine ⟨_, ?_, hx.sub h1x hc⟩
    obtain ⟨fs, g, i, q1, q2, q3, rfl⟩ := fi_spec hq
    obtain ⟨info, td, z, e1, e2, e3, e4, e5, e6, e7⟩ := ti_spec q3
    obtain ⟨c1, c2, c3⟩ := hc
    have hl := hx.length
    simp only [execOp, h, Instr.field, Sem.run_bind, run_underlying q1, Result.andThen_ok, q2, e, asAgg, Sem.run_pure, part, run_isAgg e2, ← e3]
    cases ha : i.k.agg with
    | true =>
      simp only [if_true, Sem.run_bind, run_sizeOf e1, Result.andThen_ok, Sem.run_pure, e4, List.extract_toArray]
      congr 4
      rw [List.extract_eq_take_drop]; congr 1; omega
    | false =>
      have h1' : i.size = 1 := c3 ha
      have hlt : g.offset < xs.length := by simp only at c1; omega
      simp [hlt, h1', take_one_drop]
  · cases hd

def faddrA (q : FI) (x : AV) : Option (Prop × AV) :=
  match x with
  | .ref (.st cs) => some (subOk q cs, .ref (subA q cs))
  | .raw (.pointer (some ⟨k, off, none⟩)) => some (q.size ≠ 0, .raw (.pointer (some ⟨k, off + q.off, none⟩)))
  | _ => none
theorem Holds.sub {w : World} {F : Frz} {k off : Nat} {xs : List Value} (h : Holds w F k off xs) (a n : Nat) : Holds w F k (off + a) ((xs.drop a).take n) := by
  intro i v hi
  rw [List.getElem?_take] at hi
  split at hi
  · rw [List.getElem?_drop] at hi
    have := h (a + i) v hi
    rwa [← Nat.add_assoc] at this
  · cases hi
theorem run_fieldPlace {P : Program} {w : World} {g : Field} {i : TI} (hi : ti P g.type = some i) (hs : i.size ≠ 0) (a : Addr) : (fieldPlace a g).run P w = .ok (a.add g.offset) w := by
  obtain ⟨info, td, z, e1, e2, e3, e4, e5, e6, e7⟩ := ti_spec hi
  simp only [fieldPlace, Sem.run_bind, run_sizeOf e1, Result.andThen_ok, e4]
  rw [if_neg hs]
  rfl
theorem vs_faddr {P : Program} {o : Oper} {ρ : Operand → AV} {own : Own} {S f : Nat} {x : Operand} {q : FI} {c : Prop} {d : AV} (h : o.op = .fieldAddr S x f) (hq : fi P S f = some q) (hd : faddrA q (ρ x) = some (c, d)) (hc : c) : VSem P o ρ own d := by
  obtain ⟨fs, g, i, q1, q2, q3, rfl⟩ := fi_spec hq
  refine VSem.of_run fun w F ev hf ho hr => ?_
  have h1 := hr x (by simp [h, Op.operands])
  generalize ρ x = dx at *
  unfold faddrA at hd
  split at hd
  · rename_i cs
    injection hd with hd; injection hd with hd1 hd2; subst hd1; subst hd2
    simp only [Rep] at h1
    obtain ⟨k, off, y, e, ⟨xs, rfl, hx, h1x⟩, hh⟩ := h1
    refine ⟨.pointer (some ⟨k, off + g.offset, none⟩), ?_, ?_⟩
    · simp only [execOp, h, Instr.fieldAt, Sem.run_bind, run_underlying q1, Result.andThen_ok, q2, e, Instr.sureAddr, Sem.run_pure, run_fieldPlace q3 hc.2.1, Addr.add_plain]
    · simp only [Rep]
      refine ⟨k, off + g.offset, _, rfl, hx.sub h1x hc, ?_⟩
      have hs := hh.sub g.offset i.size
      simp only [Value.cells] at hs
      cases ha : i.k.agg with
      | true => simpa [Value.cells] using hs
      | false =>
        have h1' : i.size = 1 := hc.2.2 ha
        have hl := hx.length
        have hlt : g.offset < xs.length := by have := hc.1; simp only at this; omega
        simp only [Bool.false_eq_true, if_false]
        have e1 : (xs.drop g.offset).take i.size = [xs[g.offset]] := by rw [h1', take_one_drop hlt]
        rw [e1] at hs ⊢
        simp only [List.headD_cons]
        rw [cells_one (h1x _ (List.getElem_mem hlt))]
        simpa using hs
  · rename_i k off
    injection hd with hd; injection hd with hd1 hd2; subst hd1; subst hd2
    simp only [Rep] at h1
    refine ⟨.pointer (some ⟨k, off + g.offset, none⟩), ?_, by simp [Rep, Value.oneCell']⟩
    simp only [execOp, h, Instr.fieldAt, Sem.run_bind, run_underlying q1, Result.andThen_ok, q2, h1.1, Instr.sureAddr, Sem.run_pure, run_fieldPlace q3 hc, Addr.add_plain]
  · cases hd

/-! ### Elements -/
def iaddrA (k : TK) (es : Nat) (x i : AV) : Option (Prop × AV) :=
  match k, x, i with
  | .slc _, .lst wd l, .raw (.int _ n) => some (wd = es ∧ 0 ≤ n ∧ n < l.length, .ref (l.getD n.toNat .any))
  | .slc _, .raw (.slice (some ⟨b, off, none⟩) len _), .raw (.int _ n) => some (0 ≤ n ∧ n < len, .raw (.pointer (some ⟨b, off + n.toNat * es, none⟩)))
  | .arr len _, .raw (.pointer (some ⟨b, off, none⟩)), .raw (.int _ n) => some (0 ≤ n ∧ n < len, .raw (.pointer (some ⟨b, off + n.toNat * es, none⟩)))
  | _, _, _ => none
def elemOfK : TK → Nat
  | .slc e | .arr _ e => e
  | _ => 0
theorem vs_iaddr {P : Program} {o : Oper} {ρ : Operand → AV} {own : Own} {T : Nat} {x ix : Operand} {i e : TI} {c : Prop} {d : AV} (h : o.op = .indexAddr T x ix) (hi : ti P T = some i) (he : ti P (elemOfK i.k) = some e)
    (hd : iaddrA i.k e.size (ρ x) (ρ ix) = some (c, d)) (hc : c) : VSem P o ρ own d := by
  obtain ⟨info, td, z, e1, e2, e3, e4, e5, e6, e7⟩ := ti_spec hi
  obtain ⟨info', td', z', f1, f2, f3, f4, f5, f6, f7⟩ := ti_spec he
  refine VSem.of_run fun w F ev hf ho hr => ?_
  have h1 := hr x (by simp [h, Op.operands])
  have h2 := hr ix (by simp [h, Op.operands])
  generalize ρ x = dx at *
  generalize ρ ix = dix at *
  unfold iaddrA at hd
  split at hd
  · rename_i k0 el wd l k n hk
    injection hd with hd; injection hd with hd1 hd2; subst hd1; subst hd2
    simp only [Rep] at h1 h2
    obtain ⟨A, cp, ex, g1, g2, g3⟩ := h1
    obtain ⟨hw, hn0, hn1⟩ := hc
    have hne : l ≠ [] := by intro hl; subst hl; simp at hn1; omega
    obtain ⟨k1, off, rfl, hL⟩ := g3 hne
    have hlt : n.toNat < l.length := by omega
    obtain ⟨y, y1, y2, y3⟩ := hL.get n.toNat l[n.toNat] (by simp [hlt])
    refine ⟨.pointer (some ⟨k1, off + n.toNat * wd, none⟩), ?_, ?_⟩
    · rw [e3] at hk f1
      cases td <;> simp only [TK.of] at hk <;> (try cases hk)
      simp only [elemOfK, TK.of] at f1
      simp [execOp, h, Instr.indexAt, h2.1, asIntOf, run_underlying e2, ex, hn0, hn1, run_sizeOf f1, f4, Addr.add_plain, hw]
    · simp only [Rep]
      refine ⟨k1, _, y, rfl, ?_, y3⟩
      rw [List.getD_eq_getElem?_getD, List.getElem?_eq_getElem hlt]; exact y1
  · rename_i k0 el b off len cp k n hk
    injection hd with hd; injection hd with hd1 hd2; subst hd1; subst hd2
    simp only [Rep] at h1 h2
    refine ⟨_, ?_, by simp [Rep, Value.oneCell']; rfl⟩
    rw [e3] at hk f1
    cases td <;> simp only [TK.of] at hk <;> (try cases hk)
    simp only [elemOfK, TK.of] at f1
    simp [execOp, h, Instr.indexAt, h2.1, asIntOf, run_underlying e2, h1.1, hc.1, hc.2, run_sizeOf f1, f4, Addr.add_plain]
  · rename_i k0 len el b off k n hk
    injection hd with hd; injection hd with hd1 hd2; subst hd1; subst hd2
    simp only [Rep] at h1 h2
    refine ⟨_, ?_, by simp [Rep, Value.oneCell']; rfl⟩
    rw [e3] at hk f1
    cases td <;> simp only [TK.of] at hk <;> (try cases hk)
    simp only [elemOfK, TK.of] at f1
    simp [execOp, h, Instr.indexAt, h2.1, asIntOf, run_underlying e2, h1.1, hc.1, hc.2, run_sizeOf f1, f4, Addr.add_plain, Instr.sureAddr]
  · cases hd

def indexA (k : TK) (x i : AV) : Option (Prop × AV) :=
  match k, x, i with
  | .str, .raw (.string s), .raw (.int _ n) => some (0 ≤ n ∧ n < s.size, .raw (.int .u8 (s.data.getD n.toNat 0).toNat))
  | _, _, _ => none
theorem vs_index {P : Program} {o : Oper} {ρ : Operand → AV} {own : Own} {T : Nat} {x ix : Operand} {i : TI} {c : Prop} {d : AV} (h : o.op = .index T x ix) (hi : ti P T = some i)
    (hd : indexA i.k (ρ x) (ρ ix) = some (c, d)) (hc : c) : VSem P o ρ own d := by
  obtain ⟨info, td, z, e1, e2, e3, e4, e5, e6, e7⟩ := ti_spec hi
  refine VSem.of_run fun w F ev hf ho hr => ?_
  have h1 := hr x (by simp [h, Op.operands])
  have h2 := hr ix (by simp [h, Op.operands])
  generalize ρ x = dx at *
  generalize ρ ix = dix at *
  unfold indexA at hd
  split at hd
  · rename_i s k n hk
    injection hd with hd; injection hd with hd1 hd2; subst hd1; subst hd2
    simp only [Rep] at h1 h2
    refine ⟨_, ?_, by simp [Rep, Value.oneCell']; rfl⟩
    rw [e3] at hk
    cases td <;> simp only [TK.of] at hk <;> (try cases hk)
    have hlt : n.toNat < s.size := by omega
    have hget : s[n.toNat]? = some (s.data.getD n.toNat 0) := by
      rw [getElem?_pos s n.toNat hlt]
      have : n.toNat < s.data.size := hlt
      congr 1
      simp only [Array.getD, this, dif_pos]
      rfl
    simp [execOp, h, Instr.index, h2.1, asIntOf, run_underlying e2, h1.1, hc.1, hget]
  · cases hd
end Go.Proofs.YtghnigbihllnmaaGreat.Hl

/- What an operation that writes nothing comes to, the rest: conversions, slices, new memory that is never written. No condition. -/
set_option linter.unusedVariables false
set_option linter.unusedSimpArgs false

namespace Go.Proofs.YtghnigbihllnmaaGreat.Hl
open Go

/-! ### Conversions -/
def byteA (b : UInt8) : AV := .raw (.int .u8 b.toNat)
/-- The bytes of a string as abstract values. -/
def bytesA (s : ByteArray) : List AV := s.data.toList.map byteA
/-- The numbers of a list of abstract bytes. -/
def bytesOf : List AV → Option (List UInt8)
  | [] => some []
  | .raw (.int .u8 n) :: l => match bytesOf l with
    | some bs => some (UInt8.ofNat n.toNat :: bs)
    | none => none
  | _ => none

def convA (P : Program) (src dst : Nat) (x : AV) : Option (Prop × AV) :=
  match ti P src, ti P dst, x with
  | some _, some ⟨.int k, _, _, _⟩, .raw (.int _ n) => some (True, .raw (.int k (k.wrap n)))
  | some _, some ⟨.str, _, _, _⟩, .raw (.string s) => some (True, .raw (.string s))
  | some ⟨.str, _, _, _⟩, some ⟨.slc e, _, _, _⟩, .raw (.string s) => match ti P e with
    | some ⟨.int .u8, _, _, _⟩ => some (s.size ≤ 9223372036854775807, .lst 1 (bytesA s))
    | _ => none
  | _, _, _ => none

theorem bytesA_length (s : ByteArray) : (bytesA s).length = s.size := by simp [bytesA]

theorem RepL.bytes {w : World} {F : Frz} {k : Nat} (bs : List UInt8) (off : Nat) (h : Holds w F k off (bs.map fun b => .int .u8 b.toNat)) : RepL w F k off 1 (bs.map byteA) :=
  RepL.of_get _ _ fun i d hi => by
    rw [List.getElem?_map] at hi
    cases hb : bs[i]? with
    | none => rw [hb] at hi; cases hi
    | some b =>
      rw [hb] at hi
      injection hi with hi
      subst hi
      refine ⟨.int .u8 b.toNat, by simp [byteA, Rep, Value.oneCell'], rfl, fun j v hj => ?_⟩
      have hj0 : j = 0 := by
        cases j with
        | zero => rfl
        | succ j => simp [Value.cells] at hj
      subst hj0
      simp [Value.cells] at hj
      subst hj
      simpa using h i (.int .u8 b.toNat) (by simp [hb])

theorem run_markStringish (P : Program) (w : World) (arr : Array Value) (T : Nat) : ∃ m, (markStringish ⟨w.heap.size, 0, none⟩).run P { w with heap := w.heap.push (.cells arr T (0, 0)) } = .ok () { w with heap := w.heap.push (.cells arr T m) } := by
  have h1 : (w.heap.push (.cells arr T (0, 0)))[w.heap.size]? = some (.cells arr T (0, 0)) := by simp
  refine ⟨(arr.size, arr.size + 1), ?_⟩
  simp only [markStringish, Sem.run_bind, run_shape, World.shape?, h1, Result.andThen_ok, run_freeze, World.freeze]
  rw [if_neg (by decide)]
  congr 2
  apply Array.ext_getElem?
  intro i
  rw [Array.getElem?_modify, Array.getElem?_push]
  by_cases hi : w.heap.size = i
  · subst hi; simp
  · have : i ≠ w.heap.size := fun h => hi h.symm
    simp [hi, Array.getElem?_push, this]

theorem vs_conv {P : Program} {o : Oper} {ρ : Operand → AV} {own : Own} {src dst : Nat} {x : Operand} {c : Prop} {d : AV} (h : o.op = .convert src dst x) (hd : convA P src dst (ρ x) = some (c, d)) (hc : c) : VSem P o ρ own d := by
  intro w F ev hf ho hr
  have h1 := hr x (by simp [h, Op.operands])
  generalize ρ x = dx at *
  unfold convA at hd
  split at hd
  · rename_i i0 k sz by_ zs kk n hs hd'
    injection hd with hd; injection hd with hd1 hd2; subst hd1; subst hd2
    obtain ⟨_, sd, _, _, s2, _⟩ := ti_spec hs
    obtain ⟨_, dd, _, _, d2, d3, _⟩ := ti_spec hd'
    have := TK.of_int d3.symm
    subst this
    simp only [Rep] at h1
    have hrun : (execOp ev o).run P w = .ok (.value (.int k (k.wrap n))) w := by
      simp only [execOp, h, h1.1, convert, Sem.run_bind, run_underlying s2, run_underlying d2, Result.andThen_ok]
      cases sd <;> rfl
    unfold OpRes
    rw [hrun]
    exact ⟨F, Ext.refl hf, by simp [Rep, Value.oneCell']⟩
  · rename_i i0 sz by_ zs s hs hd'
    injection hd with hd; injection hd with hd1 hd2; subst hd1; subst hd2
    obtain ⟨_, sd, _, _, s2, _⟩ := ti_spec hs
    obtain ⟨_, dd, _, _, d2, d3, _⟩ := ti_spec hd'
    have := TK.of_str d3.symm
    subst this
    simp only [Rep] at h1
    have hrun : (execOp ev o).run P w = .ok (.value (.string s)) w := by
      simp only [execOp, h, h1.1, convert, Sem.run_bind, run_underlying s2, run_underlying d2, Result.andThen_ok]
      cases sd <;> rfl
    unfold OpRes
    rw [hrun]
    exact ⟨F, Ext.refl hf, by simp [Rep, Value.oneCell']⟩
  · rename_i sz by_ zs e sz' by' zs' s hs hd'
    split at hd
    · rename_i sz2 by2 zs2 he
      injection hd with hd; injection hd with hd1 hd2; subst hd1; subst hd2
      obtain ⟨_, sd, _, _, s2, s3, _⟩ := ti_spec hs
      obtain ⟨_, dd, _, _, d2, d3, _⟩ := ti_spec hd'
      obtain ⟨_, ee, _, _, e2, e3, _⟩ := ti_spec he
      have := TK.of_str s3.symm
      subst this
      have := TK.of_int e3.symm
      subst this
      cases dd <;> simp only [TK.of] at d3 <;> first | cases d3 | skip
      simp only [Rep] at h1
      obtain ⟨n, hn⟩ : ∃ n, n = (Question.appendCap s.size 0 e).cut (w.tape w.drawn (.appendCap s.size 0 e)) := ⟨_, rfl⟩
      have hge : s.size ≤ n := by rw [hn]; simp only [Question.cut]; omega
      let w1 : World := { w with drawn := w.drawn + 1 }
      obtain ⟨arr, harr⟩ : ∃ arr : Array Value, arr = (s.data.map fun b => Value.int .u8 b.toNat) ++ Array.replicate (n - s.size) (.int .u8 0) := ⟨_, rfl⟩
      obtain ⟨m, hm⟩ := run_markStringish P w1 arr e
      have hrun : (execOp ev o).run P w = .ok (.value (.slice (some ⟨w.heap.size, 0, none⟩) s.size n)) { w1 with heap := w1.heap.push (.cells arr e m) } := by
        simp only [execOp, h, h1.1, convert, Sem.run_bind, run_underlying s2, run_underlying d2, run_underlying e2, Result.andThen_ok, Conv.stringToBytes, run_choose, Question.forced, Bool.false_eq_true, if_false, ← hn, newRow, run_newObj, Sem.run_pure, ← harr]
        have := hm
        simp only [w1] at this
        rw [this]
        rfl
      unfold OpRes
      rw [hrun]
      refine ⟨FrzNew F w.heap.size s.size, ?_, ?_⟩
      · exact (Ext.drawn hf _).trans (Ext.push (w := w1) hf _ _)
      · simp only [Rep]
        refine ⟨_, n, by rw [bytesA_length], by rw [bytesA_length]; exact hge, by rw [bytesA_length]; exact hc, fun _ => ⟨_, _, rfl, ?_⟩⟩
        refine RepL.bytes _ _ (Holds.new w1 F arr e m 0 s.size _ (by simp) fun i v hi => ?_)
        rw [harr, Nat.zero_add]
        rw [List.getElem?_map] at hi
        have hlt : i < s.data.size := by
          rcases Nat.lt_or_ge i s.data.size with h' | h'
          · exact h'
          · rw [List.getElem?_eq_none (by simpa using h')] at hi; cases hi
        rw [Array.getElem?_append_left (by simpa using hlt)]
        simpa using hi
    · cases hd
  · cases hd

/-! ### A list of bytes as a string -/
theorem bytesOf_map (bs : List UInt8) : bytesOf (bs.map byteA) = some bs := by
  induction bs with
  | nil => rfl
  | cons b bs ih => simp only [List.map_cons]; simp only [byteA, bytesOf]; rw [show List.map byteA bs = List.map (fun b : UInt8 => AV.raw (.int .u8 b.toNat)) bs from rfl] at ih; rw [show List.map byteA bs = List.map (fun b : UInt8 => AV.raw (.int .u8 b.toNat)) bs from rfl, ih]; simp
theorem bytesOf_append {l m : List AV} {a b : List UInt8} (h : bytesOf l = some a) (h' : bytesOf m = some b) : bytesOf (l ++ m) = some (a ++ b) := by
  induction l generalizing a with
  | nil => simp only [bytesOf] at h; injection h with h; subst h; simpa using h'
  | cons d l ih =>
    cases d with
    | raw v =>
      cases v with
      | int k n =>
        cases k <;> simp only [bytesOf] at h <;> first | cases h | skip
        split at h
        · rename_i bs hb
          injection h with h
          subst h
          simp only [List.cons_append, bytesOf, ih hb]
        · cases h
      | _ => simp [bytesOf] at h
    | _ => simp [bytesOf] at h
theorem bytesOf_reps {w : World} {F : Frz} : ∀ {l : List AV} {bs : List UInt8} {xs : List Value}, bytesOf l = some bs → Reps w F l xs → ∃ ns : List Int, xs = ns.map (Value.int .u8) ∧ bs = ns.map fun n => UInt8.ofNat n.toNat
  | [], bs, xs, h, hr => by simp only [bytesOf] at h; injection h with h; simp only [Reps] at hr; exact ⟨[], by simp [hr], by simp [← h]⟩
  | d :: l, bs, xs, h, hr => by
    simp only [Reps] at hr
    obtain ⟨x, ys, rfl, h1, h2⟩ := hr
    cases d with
    | raw v =>
      cases v with
      | int k n =>
        cases k <;> simp only [bytesOf] at h <;> first | cases h | skip
        split at h
        · rename_i bs' hb
          injection h with h
          obtain ⟨ns, e1, e2⟩ := bytesOf_reps hb h2
          simp only [Rep] at h1
          exact ⟨n :: ns, by simp [h1.1, e1], by simp [← h, e2]⟩
        · cases h
      | _ => simp [bytesOf] at h
    | _ => simp [bytesOf] at h

theorem RepL.flat1 {w : World} {F : Frz} {k : Nat} : ∀ {l : List AV} {off : Nat}, RepL w F k off 1 l → (∀ d ∈ l, oneA d = true) → ∃ xs, Reps w F l xs ∧ ∀ j v, xs[j]? = some v → w.cell? ⟨k, off + j, none⟩ = some v
  | [], off, h, _ => ⟨[], by simp [Reps], by simp⟩
  | d :: l, off, h, hd => by
    simp only [RepL] at h
    obtain ⟨⟨x, h1, h2, h3⟩, h4⟩ := h
    obtain ⟨xs, g1, g2⟩ := RepL.flat1 h4 fun e he => hd e (by simp [he])
    refine ⟨x :: xs, by simp only [Reps]; exact ⟨x, xs, rfl, h1, g1⟩, fun j v hj => ?_⟩
    cases j with
    | zero =>
      simp at hj; subst hj
      have hc := cells_one (h1.one (hd d (by simp)))
      rw [hc] at h3
      simpa using (h3 0 x (by simp)).2
    | succ j =>
      simp at hj
      have := g2 j v hj
      rwa [show off + 1 + j = off + (j + 1) by omega] at this
theorem bytesOf_one : ∀ {l : List AV} {bs : List UInt8}, bytesOf l = some bs → ∀ d ∈ l, oneA d = true
  | [], bs, h, d, hd => by cases hd
  | e :: l, bs, h, d, hd => by
    cases e with
    | raw v =>
      cases v with
      | int k n =>
        cases k <;> simp only [bytesOf] at h <;> first | cases h | skip
        split at h
        · rename_i bs' hb
          rcases List.mem_cons.1 hd with rfl | hd
          · rfl
          · exact bytesOf_one hb d hd
        · cases h
      | _ => simp [bytesOf] at h
    | _ => simp [bytesOf] at h

/-- The bytes that a slice of bytes holds. -/
def sliceBytes (x : AV) (own : Own) : Option (Prop × List UInt8) :=
  match x with
  | .lst 1 l => match bytesOf l with
    | some bs => some (True, bs)
    | none => none
  | .raw (.slice none _ _) => some (True, [])
  | .emp => some (True, [])
  | .raw (.slice (some ⟨k, off, none⟩) n _) => match own k with
    | some o => match bytesOf ((o.cs.drop off).take n) with
      | some bs => some (off + n ≤ o.cs.length, bs)
      | none => none
    | none => none
  | _ => none
def strA (P : Program) (src dst : Nat) (x : AV) (own : Own) : Option (Prop × AV) :=
  match ti P src, ti P dst with
  | some ⟨.slc e, _, _, _⟩, some ⟨.str, _, _, _⟩ => match ti P e with
    | some ⟨.int .u8, _, _, _⟩ => match sliceBytes x own with
      | some (c, bs) => some (c, .raw (.string ⟨bs.toArray⟩))
      | none => none
    | _ => none
  | _, _ => none

theorem run_bytes_any {P : Program} {w : World} {src e dst : Nat} (hs : P.underlying src = some (.slice e)) (he : P.underlying e = some (.int .u8)) (hd : P.underlying dst = some .string) (A : Option Addr) (c : Nat) :
    (convert src dst (.slice A 0 c)).run P w = .ok (.string ⟨#[]⟩) w := by
  rw [run_convert_bytes_string w src dst e A 0 c hs he hd]
  cases A with
  | none => simp [Conv.bytesToString]; rfl
  | some a =>
    rw [run_bytesToString w a 0 c [] (by simp [loadCells, loadCellsFrom])]
    rfl

theorem vs_str {P : Program} {o : Oper} {ρ : Operand → AV} {own : Own} {src dst : Nat} {x : Operand} {c : Prop} {d : AV} (h : o.op = .convert src dst x) (hd : strA P src dst (ρ x) own = some (c, d)) (hc : c) : VSem P o ρ own d := by
  unfold strA at hd
  split at hd
  · rename_i e sz by_ zs sz' by' zs' hs hd'
    split at hd
    · rename_i sz2 by2 zs2 he
      split at hd
      · rename_i c' bs hb
        injection hd with hd; injection hd with hd1 hd2; subst hd1; subst hd2
        obtain ⟨_, sd, _, _, s2, s3, _⟩ := ti_spec hs
        obtain ⟨_, dd, _, _, d2, d3, _⟩ := ti_spec hd'
        obtain ⟨_, ee, _, _, e2, e3, _⟩ := ti_spec he
        have := TK.of_str d3.symm
        subst this
        have := TK.of_int e3.symm
        subst this
        cases sd <;> simp only [TK.of] at s3 <;> first | cases s3 | skip
        refine VSem.of_run fun w F ev hf ho hr => ⟨_, ?_, by simp [Rep, Value.oneCell']; rfl⟩
        have h1 := hr x (by simp [h, Op.operands])
        have key : ∀ y, (convert src dst (ev x)).run P w = .ok y w → (execOp ev o).run P w = .ok (.value y) w := fun y hy => by
          simp only [execOp, h]
          rw [Sem.run_bind, hy]
          rfl
        apply key
        generalize ρ x = dx at *
        unfold sliceBytes at hb
        split at hb
        · rename_i l
          split at hb
          · rename_i bs' hb'
            injection hb with hb; injection hb with hb1 hb2; subst hb1; subst hb2
            simp only [Rep] at h1
            obtain ⟨A, cp, e, g1, g2, g3⟩ := h1
            rw [e]
            by_cases hl : l = []
            · subst hl
              simp only [bytesOf] at hb'
              injection hb' with hb'
              subst hb'
              exact run_bytes_any s2 e2 d2 A cp
            · obtain ⟨k, off, rfl, hL⟩ := g3 hl
              obtain ⟨xs, x1, x2⟩ := hL.flat1 (bytesOf_one hb')
              obtain ⟨ns, n1, n2⟩ := bytesOf_reps hb' x1
              have hlen := x1.length
              rw [n1, List.length_map] at hlen
              have := run_convert_bytes_arg (P := P) w src _ s2 e2 k off l.length cp ns hlen (fun i hi => by
                refine x2 i _ ?_
                rw [n1, List.getElem?_map, List.getElem?_eq_getElem (by omega)]
                simp [List.getD_eq_getElem?_getD, List.getElem?_eq_getElem (show i < ns.length by omega)]) dst d2
              rw [this, strOfNums, n2]
          · cases hb
        · injection hb with hb; injection hb with hb1 hb2; subst hb1; subst hb2
          simp only [Rep] at h1
          rw [h1.1, run_convert_bytes_nil w src _ s2 e2 _ _ dst d2]
          rfl
        · injection hb with hb; injection hb with hb1 hb2; subst hb1; subst hb2
          simp only [Rep] at h1
          obtain ⟨A, h1⟩ := h1
          rw [h1]
          exact run_bytes_any s2 e2 d2 A 0
        · rename_i k off n cp
          split at hb
          · rename_i ob hob
            split at hb
            · rename_i bs' hb'
              injection hb with hb; injection hb with hb1 hb2; subst hb1; subst hb2
              simp only [Rep] at h1
              obtain ⟨xs, g1, g2, g3, g4⟩ := (ho k ob hob).cells off n hc
              obtain ⟨ns, n1, n2⟩ := bytesOf_reps hb' g3
              have hlen : ns.length = n := by rw [← g1, n1, List.length_map]
              rw [h1.1]
              have := run_convert_bytes_arg (P := P) w src _ s2 e2 k off n cp ns hlen (fun i hi => by
                refine g2 i _ ?_
                rw [n1, List.getElem?_map, List.getElem?_eq_getElem (by omega)]
                simp [List.getD_eq_getElem?_getD, List.getElem?_eq_getElem (show i < ns.length by omega)]) dst d2
              rw [this, strOfNums, n2]
            · cases hb
          · cases hb
        · cases hb
      · cases hd
    · cases hd
  · cases hd
end Go.Proofs.YtghnigbihllnmaaGreat.Hl

/- What an operation that writes nothing comes to, the last part: slices of slices, tuples, structs built, boxes and slices that nobody writes, len, min, max. No condition. -/
set_option linter.unusedVariables false
set_option linter.unusedSimpArgs false

namespace Go.Proofs.YtghnigbihllnmaaGreat.Hl
open Go

/-! ### Slices -/
/-- An optional bound as a number: 'def' where there is none. -/
def bndA (dflt : Nat) : Option AV → Option Int
  | none => some dflt
  | some (.raw (.int _ n)) => some n
  | _ => none
def sliceA (k : TK) (es : Nat) (x : AV) (lo hi mx : Option AV) : Option (Prop × AV) :=
  match k, x with
  | .str, .raw (.string s) => match bndA 0 lo, bndA s.size hi, mx with
    | some l, some h, none => some (0 ≤ l ∧ l ≤ h ∧ h ≤ s.size, .raw (.string (s.extract l.toNat h.toNat)))
    | _, _, _ => none
  | .slc _, .lst wd l => match bndA 0 lo, bndA l.length hi, bndA l.length mx with
    | some a, some b, some m => some (wd = es ∧ 0 ≤ a ∧ a ≤ b ∧ b ≤ m ∧ m ≤ l.length, .lst wd ((l.drop a.toNat).take (b.toNat - a.toNat)))
    | _, _, _ => none
  | .slc _, .raw (.slice (some ⟨k, off, none⟩) n c) => match bndA 0 lo, bndA n hi, mx with
    | some a, some b, none => some (0 ≤ a ∧ a ≤ b ∧ b ≤ c, .raw (.slice (some ⟨k, off + (if (c : Int) = a then 0 else a.toNat * es), none⟩) (b.toNat - a.toNat) (c - a.toNat)))
    | _, _, _ => none
  | _, _ => none

theorem run_sliceBound {P : Program} {w : World} {k : IntKind} {n : Int} {y : Nat} {code : BoundsCode} (h0 : 0 ≤ n) (h1 : n ≤ y) : (Instr.sliceBound (.int k n) y code).run P w = .ok n.toNat w := by
  simp [Instr.sliceBound, asIntOf, h0, h1]

/-- A bound's operand. -/
def bndV (ev : Operand → Value) (dflt : Nat) (lo : Option Operand) : Value := match lo with
  | none => .int .i64 dflt
  | some x => ev x
theorem bnd_rep {w : World} {F : Frz} {ρ : Operand → AV} {ev : Operand → Value} {dflt : Nat} {lo : Option Operand} {n : Int} (h : bndA dflt (lo.map ρ) = some n) (hr : ∀ x, lo = some x → Rep w F (ρ x) (ev x)) :
    (lo = none ∧ n = dflt) ∨ ∃ x k, lo = some x ∧ ev x = .int k n := by
  cases lo with
  | none => simp [bndA] at h; exact .inl ⟨rfl, h.symm⟩
  | some x =>
    right
    have h1 := hr x rfl
    simp only [Option.map_some] at h
    generalize ρ x = d at *
    cases d with
    | raw v =>
      cases v with
      | int k m => simp only [bndA] at h; injection h with h; subst h; simp only [Rep] at h1; exact ⟨x, k, rfl, h1.1⟩
      | _ => simp [bndA] at h
    | _ => simp [bndA] at h

theorem run_sliceBounds2 {P : Program} {w : World} {ev : Operand → Value} {isS : Bool} {len cap : Nat} {lo hi : Option Operand} {l h : Int}
    (hl : (lo = none ∧ l = 0) ∨ ∃ x k, lo = some x ∧ ev x = .int k l) (hh : (hi = none ∧ h = len) ∨ ∃ x k, hi = some x ∧ ev x = .int k h) (h0 : 0 ≤ l) (h1 : l ≤ h) (h2 : h ≤ cap) :
    (Instr.sliceBounds isS len cap (lo.map ev) (hi.map ev) none).run P w = .ok (l.toNat, h.toNat, cap) w := by
  have e1 : ∀ y : Nat, h = y → l ≤ y := fun y hy => by omega
  rcases hl with ⟨rfl, rfl⟩ | ⟨x, k, rfl, ex⟩ <;> rcases hh with ⟨rfl, rfl⟩ | ⟨y, k', rfl, ey⟩ <;>
    simp only [Instr.sliceBounds, Option.map_none, Option.map_some, Sem.run_bind, Sem.run_pure, Result.andThen_ok]
  · simp
  · rw [ey, run_sliceBound (by omega) h2]; simp
  · rw [ex, run_sliceBound h0 h1]; simp
  · rw [ey, run_sliceBound (by omega) h2]
    simp only [Result.andThen_ok]
    rw [ex, run_sliceBound h0 (by omega)]
    simp
theorem run_sliceBounds3 {P : Program} {w : World} {ev : Operand → Value} {isS : Bool} {len cap : Nat} {lo : Option Operand} {x : Operand} {k0 : IntKind} {l h m : Int}
    (hl : (lo = none ∧ l = 0) ∨ ∃ x k, lo = some x ∧ ev x = .int k l) {y : Operand} {k' : IntKind} (ey : ev y = .int k' h) (ex0 : ev x = .int k0 m) (h0 : 0 ≤ l) (h1 : l ≤ h) (h2 : h ≤ m) (h3 : m ≤ cap) :
    (Instr.sliceBounds isS len cap (lo.map ev) (some (ev y)) (some (ev x))).run P w = .ok (l.toNat, h.toNat, m.toNat) w := by
  rcases hl with ⟨rfl, rfl⟩ | ⟨x', k, rfl, ex⟩ <;>
    simp only [Instr.sliceBounds, Option.map_none, Option.map_some, Sem.run_bind, Sem.run_pure, Result.andThen_ok]
  · rw [ex0, run_sliceBound (by omega) h3]
    simp only [Result.andThen_ok]
    rw [ey, run_sliceBound (by omega) (by omega)]
    simp
  · rw [ex0, run_sliceBound (by omega) h3]
    simp only [Result.andThen_ok]
    rw [ey, run_sliceBound (by omega) (by omega)]
    simp only [Result.andThen_ok]
    rw [ex, run_sliceBound h0 (by omega)]
    simp

theorem vs_slice {P : Program} {o : Oper} {ρ : Operand → AV} {own : Own} {T : Nat} {x : Operand} {lo hi mx : Option Operand} {i e : TI} {c : Prop} {d : AV} (h : o.op = .slice T x lo hi mx) (hi' : ti P T = some i) (he : ti P (elemOfK i.k) = some e ∨ i.k = .str)
    (hd : sliceA i.k e.size (ρ x) (lo.map ρ) (hi.map ρ) (mx.map ρ) = some (c, d)) (hc : c) (hmx : mx.isSome = true → hi.isSome = true) : VSem P o ρ own d := by
  obtain ⟨info, td, z, e1, e2, e3, e4, e5, e6, e7⟩ := ti_spec hi'
  refine VSem.of_run fun w F ev hf ho hr => ?_
  have h1 := hr x (by simp [h, Op.operands])
  have hlo : ∀ y, lo = some y → Rep w F (ρ y) (ev y) := fun y hy => hr y (by simp [h, Op.operands, hy])
  have hhi : ∀ y, hi = some y → Rep w F (ρ y) (ev y) := fun y hy => hr y (by simp [h, Op.operands, hy])
  have hmx' : ∀ y, mx = some y → Rep w F (ρ y) (ev y) := fun y hy => hr y (by simp [h, Op.operands, hy])
  have key : ∀ y, (Instr.sliceAt T (ev x) (lo.map ev) (hi.map ev) (mx.map ev)).run P w = .ok y w → (execOp ev o).run P w = .ok (.value y) w := fun y hy => by
    simp only [execOp, h]
    rw [Sem.run_bind, hy]
    rfl
  generalize ρ x = dx at *
  unfold sliceA at hd
  split at hd
  · rename_i s hk
    split at hd
    · rename_i l hh hl1 hl2 hl3
      injection hd with hd; injection hd with hd1 hd2; subst hd1; subst hd2
      have b1 := bnd_rep hl1 hlo
      have b2 := bnd_rep hl2 hhi
      have b3 : mx = none := by cases mx <;> simp at hl3 ⊢
      subst b3
      simp only [Rep] at h1
      refine ⟨_, key _ ?_, by simp [Rep, Value.oneCell']; rfl⟩
      rw [e3] at hk
      have := TK.of_str hk
      subst this
      simp only [Instr.sliceAt, Sem.run_bind, run_underlying e2, Result.andThen_ok, Instr.slice, h1.1, Option.map_none]
      have := run_sliceBounds2 (P := P) (w := w) (isS := false) (cap := s.size) b1 b2 hc.1 hc.2.1 hc.2.2
      simp only [Option.isSome_none, Bool.false_eq_true, if_false, Sem.run_bind, Sem.run_pure, Result.andThen_ok, this]
    · cases hd
  · rename_i el wd l hk
    split at hd
    · rename_i a b m hl1 hl2 hl3
      injection hd with hd; injection hd with hd1 hd2; subst hd1; subst hd2
      have b1 := bnd_rep hl1 hlo
      have b2 := bnd_rep hl2 hhi
      have b3 := bnd_rep hl3 hmx'
      simp only [Rep] at h1
      obtain ⟨A, cp, ex, g1, g2, g3⟩ := h1
      obtain ⟨hw, ha0, hab, hbm, hml⟩ := hc
      obtain ⟨m', hm', hmc⟩ : ∃ m' : Nat, (Instr.sliceBounds true l.length cp (lo.map ev) (hi.map ev) (mx.map ev)).run P w = .ok (a.toNat, b.toNat, m') w ∧ m.toNat ≤ m' ∧ m' ≤ cp := by
        rcases b3 with ⟨rfl, rfl⟩ | ⟨y, k0, rfl, ey⟩
        · exact ⟨cp, run_sliceBounds2 b1 b2 ha0 hab (by omega), by omega, Nat.le_refl _⟩
        · rcases b2 with ⟨rfl, rfl⟩ | ⟨y', k', rfl, ey'⟩
          · simp at hmx
          · exact ⟨m.toNat, run_sliceBounds3 b1 ey' ey ha0 hab hbm (by omega), Nat.le_refl _, by omega⟩
      rw [e3] at hk
      have he' : ti P (elemOfK i.k) = some e := by
        rcases he with he | he
        · exact he
        · rw [e3, hk] at he; cases he
      obtain ⟨ei, f1, f2⟩ : ∃ ei, P.info? (elemOfK i.k) = some ei ∧ ei.size = e.size := by obtain ⟨a, _, _, b, _, _, c, _⟩ := ti_spec he'; exact ⟨a, b, c⟩
      cases td <;> simp only [TK.of] at hk <;> first | cases hk | skip
      rename_i e'
      simp only [e3, elemOfK, TK.of] at f1
      refine ⟨.slice (if m' = a.toNat then A else A.map (·.add (a.toNat * e.size))) (b.toNat - a.toNat) (m' - a.toNat), key _ ?_, ?_⟩
      · simp only [Instr.sliceAt, Sem.run_bind, run_underlying e2, Result.andThen_ok, Instr.slice, ex, hm', run_sizeOf f1, f2, Sem.run_pure]
      · simp only [Rep]
        have hlen : ((l.drop a.toNat).take (b.toNat - a.toNat)).length = b.toNat - a.toNat := by simp; omega
        refine ⟨_, _, by rw [hlen], by rw [hlen]; omega, by rw [hlen]; omega, fun hne => ?_⟩
        have hne' : l ≠ [] := by intro hl; subst hl; simp at hne
        have hlt : a.toNat < b.toNat := by
          rcases Nat.lt_or_ge a.toNat b.toNat with h' | h'
          · exact h'
          · exact absurd (by rw [Nat.sub_eq_zero_of_le h']; rfl) hne
        obtain ⟨k, off, rfl, hL⟩ := g3 hne'
        rw [if_neg (by omega)]
        refine ⟨k, off + a.toNat * e.size, by simp [Addr.add_plain], ?_⟩
        rw [← hw]
        exact hL.sub a.toNat (b.toNat - a.toNat)
    · cases hd
  · rename_i el k off n cp hk
    split at hd
    · rename_i a b hl1 hl2 hl3
      injection hd with hd; injection hd with hd1 hd2; subst hd1; subst hd2
      have b1 := bnd_rep hl1 hlo
      have b2 := bnd_rep hl2 hhi
      have b3 : mx = none := by cases mx <;> simp at hl3 ⊢
      subst b3
      simp only [Rep] at h1
      refine ⟨_, key _ ?_, by simp only [Rep]; exact ⟨rfl, rfl⟩⟩
      have hm' := run_sliceBounds2 (P := P) (w := w) (isS := true) (cap := cp) b1 b2 hc.1 hc.2.1 hc.2.2
      rw [e3] at hk
      have he' : ti P (elemOfK i.k) = some e := by
        rcases he with he | he
        · exact he
        · rw [e3, hk] at he; cases he
      obtain ⟨ei, f1, f2⟩ : ∃ ei, P.info? (elemOfK i.k) = some ei ∧ ei.size = e.size := by obtain ⟨a, _, _, b, _, _, c, _⟩ := ti_spec he'; exact ⟨a, b, c⟩
      cases td <;> simp only [TK.of] at hk <;> first | cases hk | skip
      simp only [e3, elemOfK, TK.of] at f1
      simp only [Instr.sliceAt, Sem.run_bind, run_underlying e2, Result.andThen_ok, Instr.slice, h1.1, hm', run_sizeOf f1, f2, Sem.run_pure, Option.map_none]
      congr 3
      by_cases hac : (cp : Int) = a
      · rw [if_pos (by omega), if_pos hac]; simp
      · rw [if_neg (by omega), if_neg hac]; simp [Addr.add_plain]
    · cases hd
  · cases hd

/-! ### Tuples -/
def extractA (x : AV) (i : Nat) : Option AV :=
  match x with
  | .tup ds => ds[i]?
  | _ => none
theorem vs_extract {P : Program} {o : Oper} {ρ : Operand → AV} {own : Own} {x : Operand} {i : Nat} {d : AV} (h : o.op = .extract x i) (hd : extractA (ρ x) i = some d) : VSem P o ρ own d := by
  refine VSem.of_run fun w F ev hf ho hr => ?_
  have h1 := hr x (by simp [h, Op.operands])
  generalize ρ x = dx at *
  unfold extractA at hd
  split at hd
  · simp only [Rep] at h1
    obtain ⟨xs, e, hx⟩ := h1
    obtain ⟨y, hy, hr⟩ := hx.get i d hd
    exact ⟨y, by simp [execOp, h, e, Instr.extract, hy], hr⟩
  · cases hd

/-! ### Structs built -/
/-- The cells cs with those from off on replaced. -/
def putCells (cs : List AV) (off : Nat) (new : List AV) : List AV := cs.take off ++ new ++ cs.drop (off + new.length)

def fitQ (q : FI) : AV → Prop
  | .st cs => q.agg = true ∧ cs.length = q.size
  | .tup _ | .any => False
  | _ => q.agg = false ∧ q.size = 1
theorem fitQ_fitA {off : Nat} {i : TI} {d : AV} (h : fitQ ⟨off, i.size, i.k.agg⟩ d) : fitA i d := by
  cases d <;> simp only [fitQ] at h <;> simp only [fitA] <;> exact h
/-- Where a part of a struct or an array lies. -/
def bi (P : Program) (S f : Nat) : Option FI :=
  match P.underlying S with
  | some (.array _ e) => match ti P e with
    | some i => some ⟨f * i.size, i.size, i.k.agg⟩
    | none => none
  | _ => fi P S f
theorem bi_spec {P : Program} {S f : Nat} {q : FI} (h : bi P S f = some q) : ∃ (off : Nat) (i : TI), q = ⟨off, i.size, i.k.agg⟩ := by
  unfold bi at h
  split at h
  · split at h
    · injection h with h
      exact ⟨_, _, h.symm⟩
    · cases h
  · obtain ⟨fs, g, i, _, _, _, rfl⟩ := fi_spec h
    exact ⟨_, _, rfl⟩
def buildA (P : Program) (S : Nat) : List (Nat × AV) → List AV → Option (Prop × List AV)
  | [], cs => some (True, cs)
  | (f, d) :: rest, cs => match bi P S f with
    | some q => match buildA P S rest (putCells cs q.off (cellsA d)) with
      | some (c, r) => some ((fitQ q d ∧ q.off + q.size ≤ cs.length) ∧ c, r)
      | none => none
    | none => none
/-- All fields of a struct have a size. -/
def stOk (P : Program) (S : Nat) : Bool := match P.underlying S with
  | some (.struct fs) => fs.all fun f => (P.info? f.type).isSome
  | some (.array _ e) => (P.info? e).isSome
  | _ => false

theorem fill_step {cells : Array Value} {off : Nat} {new : Array Value} (h : off + new.size ≤ cells.size) :
    new.zipIdx.foldl (fun cs (c, j) => cs.setIfInBounds (off + j) c) cells = (cells.toList.take off ++ new.toList ++ cells.toList.drop (off + new.size)).toArray := by
  rw [← Array.foldl_toList, Array.toList_zipIdx]
  have key : ∀ (l : List Value) (s : Nat) (cur : List Value), off + s + l.length ≤ cur.length →
      (l.zipIdx s).foldl (fun cs (c, j) => cs.setIfInBounds (off + j) c) cur.toArray = (cur.take (off + s) ++ l ++ cur.drop (off + s + l.length)).toArray := by
    intro l
    induction l with
    | nil => intro s cur _; simp
    | cons x l ih =>
      intro s cur hl
      simp only [List.zipIdx_cons, List.foldl_cons, List.setIfInBounds_toArray]
      simp only [List.length_cons] at hl
      rw [ih (s + 1) (cur.set (off + s) x) (by simp; omega)]
      have e := list_seg_step cur (off + s) x l (by omega)
      simpa [Nat.add_assoc, Nat.add_comm 1] using e
  have := key new.toList 0 cells.toList (by simpa using h)
  simpa using this

theorem run_mapM {α β : Type} {P : Program} {w : World} {g : α → Sem β} {f : α → β} : ∀ {l : List α}, (∀ x ∈ l, (g x).run P w = .ok (f x) w) → (l.mapM g).run P w = .ok (l.map f) w
  | [], _ => by simp
  | x :: l, h => by
    rw [List.mapM_cons, Sem.run_bind, h x (by simp), Result.andThen_ok, Sem.run_bind, run_mapM fun y hy => h y (by simp [hy])]
    rfl

theorem fill_sound {P : Program} {S : Nat} {w : World} {F : Frz} {pl : Nat → Option (Nat × Nat)} (hpl : ∀ f q, bi P S f = some q → pl f = some (q.off, q.size)) :
    ∀ {parts : List (Nat × AV)} {vs : List (Nat × Value)} {cs r : List AV} {cells : Array Value} {c : Prop}, buildA P S parts cs = some (c, r) → c →
      parts.length = vs.length → (∀ (j : Nat) (p : Nat × AV) (q : Nat × Value), parts[j]? = some p → vs[j]? = some q → p.1 = q.1 ∧ Rep w F p.2 q.2) → Reps w F cs cells.toList → (∀ y ∈ cells.toList, y.oneCell' = true) →
      ∃ out : Array Value, Instr.fill pl cells vs = some out ∧ Reps w F r out.toList ∧ ∀ y ∈ out.toList, y.oneCell' = true
  | [], vs, cs, r, cells, c, h, hc, hl, hp, hr, h1 => by
    have : vs = [] := List.eq_nil_of_length_eq_zero hl.symm
    subst this
    simp only [buildA] at h
    injection h with h; injection h with _ h; subst h
    exact ⟨cells, rfl, hr, h1⟩
  | (f, d) :: parts, [], cs, r, cells, c, h, hc, hl, hp, hr, h1 => by simp at hl
  | (f, d) :: parts, (f', v) :: vs, cs, r, cells, c, h, hc, hl, hp, hr, h1 => by
    obtain ⟨ef, hv⟩ := hp 0 (f, d) (f', v) rfl rfl
    simp only at ef hv
    subst ef
    simp only [buildA] at h
    split at h
    · rename_i q hq
      split at h
      · rename_i c' r' hb
        injection h with h; injection h with hc' h; subst h; subst hc'
        obtain ⟨⟨hfit, hlt⟩, hc2⟩ := hc
        obtain ⟨off, i, rfl⟩ := bi_spec hq
        have hp0 := hpl f _ hq
        simp only at hp0
        obtain ⟨k1, k2, k3, k4, k5, k6⟩ := hv.cells (fitQ_fitA hfit)
        have hlen := hr.length
        simp only at hlt
        have hstep := fill_step (cells := cells) (off := off) (new := v.cells) (by rw [k1]; simp at hlen; omega)
        obtain ⟨out, o1, o2, o3⟩ := fill_sound hpl (cells := (cells.toList.take off ++ v.cells.toList ++ cells.toList.drop (off + v.cells.size)).toArray) hb hc2 (by simpa using hl) (fun j p q hj hj' => hp (j + 1) p q hj hj')
          (by
            simp only [putCells]
            have : (cellsA d).length = v.cells.size := by rw [k4, k1]
            rw [this]
            exact ((hr.take off).append k2).append (hr.drop (off + v.cells.size)))
          (fun y hy => by
            simp only [List.mem_append] at hy
            rcases hy with (hy | hy) | hy
            · exact h1 y (List.mem_of_mem_take hy)
            · exact k3 y hy
            · exact h1 y (List.mem_of_mem_drop hy))
        refine ⟨out, ?_, o2, o3⟩
        simp only [Instr.fill, hp0, k1]
        rw [if_neg (by simp; simp at hlen; omega)]
        rw [← hstep] at o1
        exact o1
      · cases h
    · cases h

def buildV (P : Program) (S : Nat) (parts : List (Nat × AV)) : Option (Prop × AV) :=
  match ti P S with
  | some i => match buildA P S parts (i.zero.map .raw) with
    | some (c, r) => some (stOk P S = true ∧ i.zero.all (·.oneCell') = true ∧ c, .st r)
    | none => none
  | none => none
theorem Reps.raws {w : World} {F : Frz} : ∀ {vs : List Value}, (∀ y ∈ vs, y.oneCell' = true) → Reps w F (vs.map .raw) vs
  | [], _ => by simp [Reps]
  | v :: vs, h => by
    simp only [List.map_cons, Reps]
    exact ⟨v, vs, rfl, by simp only [Rep]; exact ⟨trivial, h v (by simp)⟩, Reps.raws fun y hy => h y (by simp [hy])⟩

theorem vs_build {P : Program} {o : Oper} {ρ : Operand → AV} {own : Own} {S : Nat} {parts : Array (Nat × Operand)} {c : Prop} {d : AV} (h : o.op = .build S parts)
    (hd : buildV P S (parts.toList.map fun p => (p.1, ρ p.2)) = some (c, d)) (hc : c) : VSem P o ρ own d := by
  unfold buildV at hd
  split at hd
  · rename_i i hi
    split at hd
    · rename_i c' r hb
      injection hd with hd; injection hd with hd1 hd2; subst hd1; subst hd2
      obtain ⟨hst, hz1, hc'⟩ := hc
      obtain ⟨info, td, z, e1, e2, e3, e4, e5, e6, e7⟩ := ti_spec hi
      refine VSem.of_run fun w F ev hf ho hr => ?_
      have hz1' : ∀ y ∈ i.zero, y.oneCell' = true := by simpa using hz1
      have hparts : (parts.map fun x => (x.1, ev x.2)).toList = parts.toList.map fun p => (p.1, ev p.2) := by simp
      have hval : ∀ (j : Nat) (p : Nat × AV) (q : Nat × Value), (parts.toList.map fun p => (p.1, ρ p.2))[j]? = some p → (parts.toList.map fun p => (p.1, ev p.2))[j]? = some q → p.1 = q.1 ∧ Rep w F p.2 q.2 := fun j p q hj hj' => by
        rw [List.getElem?_map] at hj hj'
        cases hp : parts.toList[j]? with
        | none => rw [hp] at hj; cases hj
        | some x =>
          rw [hp] at hj hj'
          injection hj with hj; injection hj' with hj'
          subst hj; subst hj'
          exact ⟨rfl, hr x.2 (by simp only [h, Op.operands]; simp only [List.mem_toArray, List.mem_map]; exact ⟨x, List.mem_of_getElem? hp, rfl⟩)⟩
      unfold stOk at hst
      split at hst
      · rename_i fs hS
        have hall : ∀ f ∈ fs, ∃ i, P.info? f.type = some i := by
          simp only [Array.all_eq_true_iff_forall_mem] at hst
          exact fun f hf => Option.isSome_iff_exists.1 (hst f hf)
        let sz : Field → Nat := fun f => ((P.info? f.type).map (·.size)).getD 0
        have hpl : ∀ f q, bi P S f = some q → ((fs.map fun f => (f.offset, sz f))[·]?) f = some (q.off, q.size) := fun f q hq => by
          unfold bi at hq
          rw [hS] at hq
          obtain ⟨fs', g, i', q1, q2, q3, rfl⟩ := fi_spec hq
          rw [hS] at q1
          injection q1 with q1; injection q1 with q1; subst q1
          obtain ⟨info', td', z', f1, f2, f3, f4, f5, f6, f7⟩ := ti_spec q3
          simp only [Array.getElem?_map, q2, Option.map_some]
          simp [sz, f1, f4]
        obtain ⟨out, o1, o2, o3⟩ := fill_sound hpl (w := w) (F := F) (vs := parts.toList.map fun p => (p.1, ev p.2)) (cells := z.cells) hb hc' (by simp) hval
          (by rw [e7]; exact Reps.raws hz1') (by rw [e7]; exact hz1')
        refine ⟨.agg out, ?_, by simp only [Rep]; exact ⟨out.toList, by simp, o2, o3⟩⟩
        have hm : (fs.mapM fun f => (do pure (f.offset, ← sizeOf f.type) : Sem (Nat × Nat))).run P w = .ok (fs.map fun f => (f.offset, sz f)) w := by
          rw [Array.mapM_eq_mapM_toList, Sem.run_map]
          rw [run_mapM (f := fun f => (f.offset, sz f)) fun f hf => by
            obtain ⟨i', hi'⟩ := hall f (by simpa using hf)
            simp only [Sem.run_bind, run_sizeOf hi', Result.andThen_ok, Sem.run_pure, sz, hi', Option.map_some, Option.getD_some]]
          simp
          apply Array.ext'
          simp
        simp only [execOp, h, Instr.build, Sem.run_bind, run_zeroValue e1 e6, Result.andThen_ok, run_underlying hS, hm]
        rw [hparts, o1]
        rfl
      · rename_i n e hS
        obtain ⟨ie, hie⟩ := Option.isSome_iff_exists.1 hst
        have hpl : ∀ f q, bi P S f = some q → (fun i => some (i * ie.size, ie.size)) f = some (q.off, q.size) := fun f q hq => by
          unfold bi at hq
          rw [hS] at hq
          simp only at hq
          split at hq
          · rename_i i' hi'
            injection hq with hq
            subst hq
            obtain ⟨info', td', z', f1, f2, f3, f4, f5, f6, f7⟩ := ti_spec hi'
            rw [f1] at hie
            injection hie with hie
            subst hie
            simp only [f4]
          · cases hq
        obtain ⟨out, o1, o2, o3⟩ := fill_sound hpl (w := w) (F := F) (vs := parts.toList.map fun p => (p.1, ev p.2)) (cells := z.cells) hb hc' (by simp) hval
          (by rw [e7]; exact Reps.raws hz1') (by rw [e7]; exact hz1')
        refine ⟨.agg out, ?_, by simp only [Rep]; exact ⟨out.toList, by simp, o2, o3⟩⟩
        simp only [execOp, h, Instr.build, Sem.run_bind, run_zeroValue e1 e6, Result.andThen_ok, run_underlying hS, run_sizeOf hie]
        rw [hparts, o1]
        rfl
      · cases hst
    · cases hd
  · cases hd
end Go.Proofs.YtghnigbihllnmaaGreat.Hl

/- Boxes and slices that nobody writes, function values, len, min, max; and the one function that says what an operation comes to. No condition. -/
set_option linter.unusedVariables false
set_option linter.unusedSimpArgs false

namespace Go.Proofs.YtghnigbihllnmaaGreat.Hl
open Go

theorem run_newVar (P : Program) (w : World) (T : Nat) (v : Value) : (newVar T v).run P w = .ok ⟨w.heap.size, 0, none⟩ { w with heap := w.heap.push (.cells v.cells T) } := by
  simp [newVar, newRow]

theorem vs_box {P : Program} {o : Oper} {ρ : Operand → AV} {own : Own} {T : Nat} {x : Operand} (h : o.op = .box T x) : VSem P o ρ own (.ref (ρ x)) := by
  intro w F ev hf ho hr
  have h1 := hr x (by simp [h, Op.operands])
  have hrun : (execOp ev o).run P w = .ok (.value (.pointer (some ⟨w.heap.size, 0, none⟩))) { w with heap := w.heap.push (.cells (ev x).cells T) } := by
    simp only [execOp, h, Instr.box, Sem.run_bind, run_newVar, Result.andThen_ok, Sem.run_pure]
  unfold OpRes
  rw [hrun]
  refine ⟨_, Ext.push hf _ (ev x).cells.size, ?_⟩
  simp only [Rep]
  exact ⟨_, _, _, rfl, Rep.mono (Ext.push hf _ _).kept _ _ h1, Holds.new w F _ _ _ 0 _ _ (by simp) fun i v hi => by simpa using hi⟩

theorem Reps.map_ev {w : World} {F : Frz} {ρ : Operand → AV} {ev : Operand → Value} : ∀ {l : List Operand}, (∀ x ∈ l, Rep w F (ρ x) (ev x)) → Reps w F (l.map ρ) (l.map ev)
  | [], _ => by simp [Reps]
  | x :: l, h => by
    simp only [List.map_cons, Reps]
    exact ⟨_, _, rfl, h x (by simp), Reps.map_ev fun y hy => h y (by simp [hy])⟩
theorem vs_func {P : Program} {o : Oper} {ρ : Operand → AV} {own : Own} {fn : Fn} {a b : Array Operand} (h : o.op = .makeFunc fn a b) : VSem P o ρ own (.clo fn (a.toList.map ρ) (b.toList.map ρ)) := by
  refine VSem.of_run fun w F ev hf ho hr => ⟨.func fn (a.map ev) (b.map ev), by simp [execOp, h, Instr.makeFunc], ?_⟩
  simp only [Rep]
  refine ⟨a.toList.map ev, b.toList.map ev, ?_, Reps.map_ev fun x hx => hr x (by simp only [h, Op.operands]; simp at hx ⊢; exact .inl hx), Reps.map_ev fun x hx => hr x (by simp only [h, Op.operands]; simp at hx ⊢; exact .inr hx)⟩
  congr 1 <;> apply Array.ext' <;> simp

/-! ### Slices out of their elements -/
theorem Holds.append {w : World} {F : Frz} {k off : Nat} {a b : List Value} (h : Holds w F k off (a ++ b)) : Holds w F k off a ∧ Holds w F k (off + a.length) b :=
  ⟨fun i v hi => h i v (by rw [List.getElem?_append_left]; exact hi; rcases Nat.lt_or_ge i a.length with h' | h'; exact h'; rw [List.getElem?_eq_none h'] at hi; cases hi),
   fun i v hi => by have := h (a.length + i) v (by rw [List.getElem?_append_right (by omega)]; simpa using hi); rwa [← Nat.add_assoc] at this⟩
theorem RepL.flat {w : World} {F : Frz} {k wd : Nat} : ∀ {ds : List AV} {vs : List Value} {off : Nat}, Reps w F ds vs → (∀ v ∈ vs, v.cells.size = wd) → Holds w F k off (vs.flatMap fun v => v.cells.toList) → RepL w F k off wd ds
  | [], vs, off, h, _, _ => by simp [RepL]
  | d :: ds, vs, off, h, hs, hh => by
    simp only [Reps] at h
    obtain ⟨x, xs, rfl, h1, h2⟩ := h
    simp only [List.flatMap_cons] at hh
    obtain ⟨g1, g2⟩ := hh.append
    have hx := hs x (by simp)
    simp only [RepL]
    refine ⟨⟨x, h1, hx, g1⟩, RepL.flat h2 (fun v hv => hs v (by simp [hv])) ?_⟩
    have : x.cells.toList.length = wd := by simpa using hx
    rwa [this] at g2

theorem fill_seq (size : Nat) : ∀ (vs : List (Nat × Value)) (s : Nat) (cells : Array Value), (∀ (j : Nat) (p : Nat × Value), vs[j]? = some p → p.1 = s + j ∧ p.2.cells.size = size) → cells.size = (s + vs.length) * size →
    ∃ out : Array Value, Instr.fill (fun i => some (i * size, size)) cells vs = some out ∧ out.toList = cells.toList.take (s * size) ++ vs.flatMap fun p => p.2.cells.toList
  | [], s, cells, h, hs => ⟨cells, rfl, by simp at hs ⊢; rw [List.take_of_length_le (by simp [hs])]⟩
  | (i, v) :: vs, s, cells, h, hs => by
    obtain ⟨e1, e2⟩ := h 0 (i, v) rfl
    simp only [Nat.add_zero] at e1 e2
    subst e1
    have hs' : cells.size = i * size + size + vs.length * size := by rw [hs, List.length_cons, show i + (vs.length + 1) = i + 1 + vs.length by omega, Nat.add_mul, Nat.add_mul]; omega
    have hstep := fill_step (cells := cells) (off := i * size) (new := v.cells) (by rw [e2]; omega)
    have hsz : ((cells.toList.take (i * size) ++ v.cells.toList ++ cells.toList.drop (i * size + v.cells.size)).toArray).size = (i + 1 + vs.length) * size := by
      simp [e2]
      rw [Nat.add_mul, Nat.add_mul]
      omega
    obtain ⟨out, o1, o2⟩ := fill_seq size vs (i + 1) (cells.toList.take (i * size) ++ v.cells.toList ++ cells.toList.drop (i * size + v.cells.size)).toArray
      (fun j p hj => by have := h (j + 1) p hj; exact ⟨by omega, this.2⟩) hsz
    refine ⟨out, ?_, ?_⟩
    · simp only [Instr.fill]
      rw [if_neg (by simp [e2]; omega)]
      rw [← hstep] at o1
      exact o1
    · rw [o2]
      simp only [List.flatMap_cons]
      have hl : (cells.toList.take (i * size) ++ v.cells.toList).length = (i + 1) * size := by simp [e2]; rw [Nat.add_mul]; omega
      rw [List.take_append_of_le_length (by rw [hl]; exact Nat.le_refl _), List.take_of_length_le (by rw [hl]; exact Nat.le_refl _), List.append_assoc]

/-- All parts there, in order, and of the element's type. -/
def partsOk (e : TI) (n : Nat) (s : Nat) : List (Nat × AV) → Prop
  | [] => s = n
  | (i, d) :: rest => i = s ∧ fitA e d ∧ partsOk e n (s + 1) rest
theorem partsOk_get {e : TI} {n : Nat} : ∀ {ps : List (Nat × AV)} {s : Nat}, partsOk e n s ps → s + ps.length = n ∧ ∀ (j : Nat) (p : Nat × AV), ps[j]? = some p → p.1 = s + j ∧ fitA e p.2
  | [], s, h => ⟨by simpa [partsOk] using h, by simp⟩
  | (i, d) :: rest, s, h => by
    simp only [partsOk] at h
    obtain ⟨rfl, h1, h2⟩ := h
    obtain ⟨g1, g2⟩ := partsOk_get h2
    refine ⟨by simp; omega, fun j p hj => ?_⟩
    cases j with
    | zero => simp at hj; subst hj; exact ⟨rfl, h1⟩
    | succ j => simp at hj; have := g2 j p hj; exact ⟨by omega, this.2⟩

theorem run_buildSlice {P : Program} {w : World} {F : Frz} {T n : Nat} {i e : TI} {parts : List (Nat × AV)} {vs : Array (Nat × Value)} (hi : ti P T = some i) {el : Nat} (hk : i.k = .slc el) (he : ti P el = some e) (hp : partsOk e n 0 parts) (hn : n * e.size ≤ 16777216)
    (hl : parts.length = vs.size) (hr : ∀ (j : Nat) (p : Nat × AV) (q : Nat × Value), parts[j]? = some p → vs.toList[j]? = some q → p.1 = q.1 ∧ Rep w F p.2 q.2) :
    ∃ (el' : Nat) (out : Array Value), (Instr.buildSlice T n vs).run P w = .ok (.slice (some ⟨w.heap.size, 0, none⟩) n n) { w with heap := w.heap.push (.cells out el') } ∧
      out.toList = (vs.toList.map (·.2)).flatMap (fun v => v.cells.toList) ∧ el' = el := by
  obtain ⟨info, td, z, e1, e2, e3, e4, e5, e6, e7⟩ := ti_spec hi
  obtain ⟨info', td', z', f1, f2, f3, f4, f5, f6, f7⟩ := ti_spec he
  rw [e3] at hk
  cases td <;> simp only [TK.of] at hk <;> first | cases hk | skip
  obtain ⟨g1, g2⟩ := partsOk_get hp
  have hv : ∀ (j : Nat) (q : Nat × Value), vs.toList[j]? = some q → q.1 = 0 + j ∧ q.2.cells.size = e.size := fun j q hq => by
    have hlt : j < parts.length := by
      rw [hl]
      rcases Nat.lt_or_ge j vs.size with h' | h'
      · exact h'
      · rw [List.getElem?_eq_none (by simpa using h')] at hq; cases hq
    obtain ⟨k1, k2⟩ := hr j _ q (List.getElem?_eq_getElem hlt) hq
    obtain ⟨m1, m2⟩ := g2 j _ (List.getElem?_eq_getElem hlt)
    exact ⟨k1 ▸ m1, (k2.cells m2).1⟩
  have hvn : vs.size = n := by rw [← hl]; omega
  obtain ⟨zr, hz⟩ : ∃ zr : Array Value, zr = if n * e.size = 0 then #[] else z'.cells := ⟨_, rfl⟩
  obtain ⟨out, o1, o2⟩ := fill_seq e.size vs.toList 0 ((Array.range (n * e.size)).map (zr[· % zr.size]!)) hv (by simp [hvn])
  refine ⟨_, out, ?_, ?_, rfl⟩
  · simp only [Instr.buildSlice, Sem.run_bind, run_underlying e2, Result.andThen_ok, run_sizeOf f1, f4]
    rw [if_neg (by omega)]
    simp only [Sem.run_ite, Sem.run_bind, Sem.run_pure, run_zeroValue f1 f6, Result.andThen_ok]
    by_cases h0 : n * e.size = 0
    · rw [if_pos h0] at hz
      subst hz
      simp only [h0, if_true, Result.andThen_ok]
      simp only [h0] at o1
      rw [o1]
      simp [newRow]
    · rw [if_neg h0] at hz
      subst hz
      simp only [h0, if_false, Result.andThen_ok]
      rw [o1]
      simp [newRow]
  · rw [o2]
    simp [List.flatMap_map]

def bsA (P : Program) (T n : Nat) (parts : List (Nat × AV)) : Option (Prop × AV) :=
  match ti P T with
  | some ⟨.slc el, _, _, _⟩ => match ti P el with
    | some e => some (partsOk e n 0 parts ∧ n * e.size ≤ 16777216 ∧ n ≤ 9223372036854775807, .lst e.size (parts.map (·.2)))
    | none => none
  | _ => none

theorem Reps.of_get {w : World} {F : Frz} : ∀ {ds : List AV} {vs : List Value}, ds.length = vs.length → (∀ (j : Nat) d v, ds[j]? = some d → vs[j]? = some v → Rep w F d v) → Reps w F ds vs
  | [], vs, hl, _ => by have : vs = [] := List.eq_nil_of_length_eq_zero hl.symm; simp [Reps, this]
  | d :: ds, [], hl, _ => by simp at hl
  | d :: ds, v :: vs, hl, h => by
    simp only [Reps]
    exact ⟨v, vs, rfl, h 0 d v rfl rfl, Reps.of_get (by simpa using hl) fun j d' v' hj hj' => h (j + 1) d' v' hj hj'⟩

theorem vs_bslice {P : Program} {o : Oper} {ρ : Operand → AV} {own : Own} {T n : Nat} {parts : Array (Nat × Operand)} {c : Prop} {d : AV} (h : o.op = .buildSlice T n parts)
    (hd : bsA P T n (parts.toList.map fun p => (p.1, ρ p.2)) = some (c, d)) (hc : c) : VSem P o ρ own d := by
  unfold bsA at hd
  split at hd
  · rename_i el sz by_ zs hi
    split at hd
    · rename_i e he
      injection hd with hd; injection hd with hd1 hd2; subst hd1; subst hd2
      intro w F ev hf ho hr
      have hrr : ∀ (j : Nat) (p : Nat × AV) (q : Nat × Value), (parts.toList.map fun p => (p.1, ρ p.2))[j]? = some p → (parts.map fun x => (x.1, ev x.2)).toList[j]? = some q → p.1 = q.1 ∧ Rep w F p.2 q.2 := by
        intro j p q hj hj'
        rw [List.getElem?_map] at hj
        simp only [Array.toList_map, List.getElem?_map] at hj'
        cases hp : parts.toList[j]? with
        | none => rw [hp] at hj; cases hj
        | some x =>
          rw [hp] at hj hj'
          injection hj with hj; injection hj' with hj'
          subst hj; subst hj'
          exact ⟨rfl, hr x.2 (by simp only [h, Op.operands]; simp only [List.mem_toArray, List.mem_map]; exact ⟨x, List.mem_of_getElem? hp, rfl⟩)⟩
      obtain ⟨el', out, r1, r2, _⟩ := run_buildSlice (w := w) (F := F) (vs := parts.map fun x => (x.1, ev x.2)) hi rfl he hc.1 hc.2.1 (by simp) hrr
      have hrun : (execOp ev o).run P w = .ok (.value (.slice (some ⟨w.heap.size, 0, none⟩) n n)) { w with heap := w.heap.push (.cells out el') } := by
        simp only [execOp, h]
        rw [Sem.run_bind, r1]
        rfl
      obtain ⟨g1, g2⟩ := partsOk_get hc.1
      have hlen : parts.size = n := by simp at g1; exact g1
      have hmax : n ≤ 9223372036854775807 := hc.2.2
      unfold OpRes
      rw [hrun]
      refine ⟨_, Ext.push hf _ out.size, ?_⟩
      simp only [Rep]
      refine ⟨_, n, by simp [hlen], by simp [hlen], by simp [hlen]; exact hmax, fun _ => ⟨w.heap.size, 0, rfl, ?_⟩⟩
      refine RepL.flat (vs := (parts.map fun x => (x.1, ev x.2)).toList.map (·.2)) ?_ ?_ ?_
      · refine Reps.of_get (by simp) fun j d v hj hj' => ?_
        simp only [List.getElem?_map, Option.map_eq_some_iff] at hj hj'
        obtain ⟨p, hp, rfl⟩ := hj
        obtain ⟨q, hq, rfl⟩ := hj'
        exact Rep.mono (Ext.push hf _ _).kept _ _ (hrr j p q (by simpa [List.getElem?_map] using hp) hq).2
      · intro v hv
        simp only [List.mem_map] at hv
        obtain ⟨q, hq, rfl⟩ := hv
        obtain ⟨j, hj, hjq⟩ := List.getElem_of_mem hq
        have hj2 : j < (parts.toList.map fun p => (p.1, ρ p.2)).length := by simpa using hj
        have := hrr j _ q (List.getElem?_eq_getElem hj2) (by rw [List.getElem?_eq_getElem hj, hjq])
        exact (this.2.cells (g2 j _ (List.getElem?_eq_getElem hj2)).2).1
      · refine Holds.new w F out _ _ 0 _ _ ?_ fun i v hi => ?_
        · rw [← r2]; simp
        · rw [← r2] at hi; simpa using hi
    · cases hd
  · cases hd

/-! ### len, min, max -/
def lenA (k : TK) (x : AV) : Option AV :=
  match k, x with
  | .str, .raw (.string s) => some (.raw (.int .i64 s.size))
  | .slc _, .raw (.slice _ n _) => some (.raw (.int .i64 n))
  | .slc _, .lst _ l => some (.raw (.int .i64 l.length))
  | .slc _, .emp => some (.raw (.int .i64 0))
  | _, _ => none
theorem vs_len {P : Program} {o : Oper} {ρ : Operand → AV} {own : Own} {x : Operand} {T : Nat} {i : TI} {d : AV} (h : o.op = .call ⟨.builtin .len, #[x], #[T]⟩) (hi : ti P T = some i) (hd : lenA i.k (ρ x) = some d) : VSem P o ρ own d := by
  obtain ⟨info, td, z, e1, e2, e3, e4, e5, e6, e7⟩ := ti_spec hi
  refine VSem.of_run fun w F ev hf ho hr => ?_
  have h1 := hr x (by simp [h, Op.operands, Call.operands])
  have key : ∀ v, (Builtin.len_ #[T] o.type #[ev x]).run P w = .ok v w → (execOp ev o).run P w = .ok (.value v) w := fun v hv => by
    simp only [execOp, h, resolve, Sem.run_bind, Sem.run_pure, Result.andThen_ok, invoke, builtin]
    have : (#[x].map ev) = #[ev x] := by simp
    rw [this, hv]
    rfl
  generalize ρ x = dx at *
  rw [e3] at hd
  unfold lenA at hd
  split at hd
  · rename_i s hk
    injection hd with hd; subst hd
    have := TK.of_str hk
    subst this
    simp only [Rep] at h1
    exact ⟨.int .i64 s.size, key _ (by simp [Builtin.len_, run_underlying e2, h1.1, goInt]), by simp [Rep, Value.oneCell']⟩
  · rename_i el A n c hk
    injection hd with hd; subst hd
    obtain ⟨el', rfl⟩ := TK.of_slc hk
    simp only [Rep] at h1
    exact ⟨.int .i64 n, key _ (by simp [Builtin.len_, run_underlying e2, h1.1, goInt]), by simp [Rep, Value.oneCell']⟩
  · rename_i el wd l hk
    injection hd with hd; subst hd
    obtain ⟨el', rfl⟩ := TK.of_slc hk
    simp only [Rep] at h1
    obtain ⟨A, c, e, _⟩ := h1
    exact ⟨.int .i64 l.length, key _ (by simp [Builtin.len_, run_underlying e2, e, goInt]), by simp [Rep, Value.oneCell']⟩
  · rename_i el hk
    injection hd with hd; subst hd
    obtain ⟨el', rfl⟩ := TK.of_slc hk
    simp only [Rep] at h1
    obtain ⟨A, e⟩ := h1
    exact ⟨.int .i64 0, key _ (by simp [Builtin.len_, run_underlying e2, e, goInt]), by simp [Rep, Value.oneCell']⟩
  · cases hd

def mmA (mx : Bool) (x y : AV) : Option AV :=
  match x, y with
  | .raw (.int k a), .raw (.int k' b) => some (.raw (.int k (match mx with | true => max a b | false => min a b)))
  | _, _ => none
theorem vs_min {P : Program} {o : Oper} {ρ : Operand → AV} {own : Own} {x y : Operand} {ts : Array Nat} {d : AV} (h : o.op = .call ⟨.builtin .min, #[x, y], ts⟩) (hd : mmA false (ρ x) (ρ y) = some d) : VSem P o ρ own d := by
  refine VSem.of_run fun w F ev hf ho hr => ?_
  have h1 := hr x (by simp [h, Op.operands, Call.operands])
  have h2 := hr y (by simp [h, Op.operands, Call.operands])
  generalize ρ x = dx at *
  generalize ρ y = dy at *
  unfold mmA at hd
  split at hd
  · rename_i k a k' b
    injection hd with hd; subst hd
    simp only [Rep] at h1 h2
    refine ⟨_, ?_, by simp [Rep, Value.oneCell']; rfl⟩
    simp only [execOp, h, resolve, Sem.run_bind, Sem.run_pure, Result.andThen_ok, invoke, builtin, Builtin.min_]
    simp [h1.1, h2.1, Builtin.min2]
    rw [Int.min_def]
    split <;> split <;> omega
  · cases hd
theorem vs_max {P : Program} {o : Oper} {ρ : Operand → AV} {own : Own} {x y : Operand} {ts : Array Nat} {d : AV} (h : o.op = .call ⟨.builtin .max, #[x, y], ts⟩) (hd : mmA true (ρ x) (ρ y) = some d) : VSem P o ρ own d := by
  refine VSem.of_run fun w F ev hf ho hr => ?_
  have h1 := hr x (by simp [h, Op.operands, Call.operands])
  have h2 := hr y (by simp [h, Op.operands, Call.operands])
  generalize ρ x = dx at *
  generalize ρ y = dy at *
  unfold mmA at hd
  split at hd
  · rename_i k a k' b
    injection hd with hd; subst hd
    simp only [Rep] at h1 h2
    refine ⟨_, ?_, by simp [Rep, Value.oneCell']; rfl⟩
    simp only [execOp, h, resolve, Sem.run_bind, Sem.run_pure, Result.andThen_ok, invoke, builtin, Builtin.max_]
    simp [h1.1, h2.1, Builtin.max2]
    rw [Int.max_def]
    split <;> split <;> omega
  · cases hd
end Go.Proofs.YtghnigbihllnmaaGreat.Hl
