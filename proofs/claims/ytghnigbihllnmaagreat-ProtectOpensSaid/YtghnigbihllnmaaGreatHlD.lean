/- A program logic with abstract values over the model, part 4: from a contract to a statement. -/
import Derived.Test.YtghnigbihllnmaaGreatHlC
import Derived.WalkKit
import Derived.ProofKit
import Derived.OpenShut
import Derived.ShutString
import Derived.ChangeOld
import Derived.ChangeArms
import Derived.Below
set_option linter.unusedVariables false
set_option linter.unusedSimpArgs false
/- From a contract to a given statement: what comes in, and what is left behind. -/
set_option linter.unusedVariables false
set_option linter.unusedSimpArgs false
namespace Go.Proofs.YtghnigbihllnmaaGreat.Hl
open Go Go.RowKit Go.ChangeShapes

/-- Everything that is there. -/
def allF (W : World) : Frz := fun k _ => k < W.heap.size
theorem allF_wf (W : World) : WF W (allF W) := fun _ _ h => h

theorem below_of_ext {W w' : World} {F F' : Frz} (h : Ext W F w' F') : Below W.heap.size W w' :=
  ⟨h.os, h.tape, h.output, h.size, fun k hk => (h.old k hk).1⟩
theorem below_of_ws {W w' : World} {F F' : Frz} {own' : Own} (h : WS ⟨W, F, noOwn⟩ w' F' own') : Below W.heap.size W w' :=
  ⟨h.os, h.tape, h.output, h.size, fun k hk => (h.keep k hk rfl).1⟩

/-- What a reading of the cells of a type tells the logic. -/
def Opn (P : Program) (t : Nat) (S : List AV → Prop) : Prop :=
  ∀ {H : Type} (enc : TypeId × Value → H) (W : World) (fuel : Nat) (cs : List Value) (x : DataW H × List MemPlace), DataW.trod enc P W 0 (fun _ => true) true fuel t cs = some x →
    ∃ ds, Reps W (allF W) ds cs ∧ S ds ∧ ∀ c ∈ cs, c.oneCell' = true

def SInt (k : IntKind) : List AV → Prop := fun ds => ∃ n, ds = [.raw (.int k n)] ∧ (Lit.int k n).wf = true
def SBool : List AV → Prop := fun ds => ∃ b, ds = [.raw (.bool b)]
def SStr : List AV → Prop := fun ds => ∃ s : ByteArray, ds = [.raw (.string s)] ∧ s.size ≤ maxLen
/-- An element as a value of its own. -/
def packA (agg : Bool) (ds : List AV) : AV := match agg with
  | true => .st ds
  | false => ds.headD .any
def SSlc (wd : Nat) (agg : Bool) (S : List AV → Prop) : List AV → Prop := fun ds => ∃ es : List (List AV), (∀ d ∈ es, S d ∧ d.length = wd) ∧ ds = [.lst wd (es.map (packA agg))] ∧ es.length ≤ maxLen
theorem Opn.int {P : Program} {t : Nat} {k : IntKind} (ht : P.underlying t = some (.int k)) : Opn P t (SInt k) := by
  intro H enc W fuel cs x h
  obtain ⟨n, rfl, _, hw⟩ := DataW.trod_int ht h
  exact ⟨_, by simp [Reps, Rep, Value.oneCell'], ⟨n, rfl, hw⟩, by simp [Value.oneCell']⟩
theorem Opn.bool {P : Program} {t : Nat} (ht : P.underlying t = some .bool) : Opn P t SBool := by
  intro H enc W fuel cs x h
  obtain ⟨n, rfl, _⟩ := DataW.trod_bool ht h
  exact ⟨_, by simp [Reps, Rep, Value.oneCell'], ⟨n, rfl⟩, by simp [Value.oneCell']⟩
theorem Opn.string {P : Program} {t : Nat} (ht : P.underlying t = some .string) : Opn P t SStr := by
  intro H enc W fuel cs x h
  obtain ⟨n, rfl, _, hw⟩ := DataW.trod_string ht h
  exact ⟨_, by simp [Reps, Rep, Value.oneCell'], ⟨n, rfl, hw⟩, by simp [Value.oneCell']⟩

/-- Fields one behind the other: type, size, what is known. -/
def RdF {H : Type} (enc : TypeId × Value → H) (P : Program) (W : World) (cs : List Value) : Nat → List (Nat × Nat × (List AV → Prop)) → Prop
  | _, [] => True
  | off, (T, n, _) :: r => (∃ fuel x, DataW.trod enc P W 0 (fun _ => true) true fuel T ((cs.drop off).take n) = some x) ∧ RdF enc P W cs (off + n) r
def SzF : List (Nat × Nat × (List AV → Prop)) → Nat
  | [] => 0
  | (_, n, _) :: r => n + SzF r
def SF : List (Nat × Nat × (List AV → Prop)) → List AV → Prop
  | [], ds => ds = []
  | (_, _, S) :: r, ds => ∃ a b, ds = a ++ b ∧ S a ∧ SF r b
def OpF (P : Program) : List (Nat × Nat × (List AV → Prop)) → Prop
  | [] => True
  | (T, _, S) :: r => Opn P T S ∧ OpF P r
def FL (P : Program) : Nat → List Field → List (Nat × Nat × (List AV → Prop)) → Prop
  | _, [], [] => True
  | off, f :: fs, (T, n, _) :: r => f.offset = off ∧ f.type = T ∧ P.cellsOf T = n ∧ FL P (off + n) fs r
  | _, _, _ => False
theorem rdF_reps {H : Type} {enc : TypeId × Value → H} {P : Program} {W : World} {cs : List Value} : ∀ {fl : List (Nat × Nat × (List AV → Prop))} {off : Nat}, RdF enc P W cs off fl → OpF P fl →
    ∃ ds, Reps W (allF W) ds ((cs.drop off).take (SzF fl)) ∧ SF fl ds ∧ ∀ c ∈ (cs.drop off).take (SzF fl), c.oneCell' = true
  | [], off, _, _ => ⟨[], by simp [SzF, Reps], rfl, by simp [SzF]⟩
  | (T, n, S) :: r, off, h, ho => by
    obtain ⟨⟨fuel, x, h1⟩, h2⟩ := h
    obtain ⟨a, ra, sa, ca⟩ := ho.1 enc W fuel _ x h1
    obtain ⟨b, rb, sb, cb⟩ := rdF_reps h2 ho.2
    have e : (cs.drop off).take (SzF ((T, n, S) :: r)) = (cs.drop off).take n ++ (cs.drop (off + n)).take (SzF r) := by
      rw [SzF, List.take_add, List.drop_drop]
    rw [e]
    refine ⟨a ++ b, Reps.append ra rb, ⟨a, b, rfl, sa, sb⟩, ?_⟩
    intro c hc
    rcases List.mem_append.1 hc with h | h
    · exact ca c h
    · exact cb c h
theorem rdF_of {H : Type} {enc : TypeId × Value → H} {P : Program} {W : World} {cs : List Value} {n0 : Nat} :
    ∀ {fs : List Field} {fl : List (Nat × Nat × (List AV → Prop))} {off : Nat}, FL P off fs fl → (∀ f ∈ fs, ∃ x, DataW.trod enc P W 0 (fun _ => true) true n0 f.type ((cs.drop f.offset).take (P.cellsOf f.type)) = some x) → RdF enc P W cs off fl
  | [], [], _, _, _ => trivial
  | [], _ :: _, _, h, _ => h.elim
  | _ :: _, [], _, h, _ => h.elim
  | f :: fs, (T, n, S) :: r, off, h, hr => by
    obtain ⟨rfl, rfl, rfl, h4⟩ := h
    obtain ⟨x, hx⟩ := hr f List.mem_cons_self
    exact ⟨⟨n0, x, hx⟩, rdF_of h4 fun g hg => hr g (List.mem_cons_of_mem _ hg)⟩
theorem Opn.struct {P : Program} {t : Nat} {fs : Array Field} (fl : List (Nat × Nat × (List AV → Prop))) (ht : P.underlying t = some (.struct fs)) (hf : FL P 0 fs.toList fl) (hc : P.cellsOf t = SzF fl) (ho : OpF P fl) : Opn P t (SF fl) := by
  intro H enc W fuel cs x h
  obtain ⟨xs, n, rfl, _, hl, hxs, hr⟩ := DataW.trod_struct ht h
  have h2 : ∀ f ∈ fs.toList, ∃ x, DataW.trod enc P W 0 (fun _ => true) true n f.type ((cs.drop f.offset).take (P.cellsOf f.type)) = some x := by
    intro f hf
    obtain ⟨i, hi, e⟩ := List.mem_iff_getElem.1 hf
    have hi' : i < fs.size := by simpa using hi
    have := hr i f (by rw [Array.getElem?_eq_getElem hi']; simpa using e)
    exact ⟨xs[i]'(by omega), by rw [this, List.getElem?_eq_getElem]⟩
  obtain ⟨ds, r1, r2, r3⟩ := rdF_reps (rdF_of hf h2) ho
  rw [List.drop_zero, List.take_of_length_le (by rw [hl, hc]; exact Nat.le_refl _)] at r1 r3
  exact ⟨ds, r1, r2, r3⟩

theorem RepL.append {w : World} {F : Frz} {k wd : Nat} : ∀ {l m : List AV} {off : Nat}, RepL w F k off wd l → RepL w F k (off + l.length * wd) wd m → RepL w F k off wd (l ++ m)
  | [], m, off, _, h => by simpa using h
  | d :: l, m, off, h, h' => by
    simp only [RepL, List.cons_append] at h ⊢
    refine ⟨h.1, RepL.append h.2 ?_⟩
    have : off + wd + l.length * wd = off + (d :: l).length * wd := by rw [List.length_cons, Nat.succ_mul]; omega
    rw [this]; exact h'
theorem add_none (b off n : Nat) : Addr.add ⟨b, off, none⟩ n = ⟨b, off + n, none⟩ := by
  unfold Addr.add
  split
  · rename_i h; subst h; rfl
  · rfl
theorem add_zero' (a : Addr) : a.add 0 = a := by simp [Addr.add]
theorem holds_cells {W : World} {b off n : Nat} {cs : List Value} (h : W.cells? 0 ⟨b, off, none⟩ n = some cs) (hb : b < W.heap.size) : cs.length = n ∧ Holds W (allF W) b off cs := by
  unfold World.cells? at h
  rw [if_pos (Nat.zero_le _)] at h
  have hl := mapM_some_length h
  refine ⟨by simpa using hl, fun i v hi => ⟨hb, ?_⟩⟩
  have hn : i < n := by have := (List.getElem?_eq_some_iff.1 hi).1; simp at hl; omega
  have := mapM_some_get h i i (by simp [hn])
  rw [hi, add_none] at this
  exact this
theorem Opn.slice {P : Program} {t e wd : Nat} {S : List AV → Prop} (agg : Bool) (ht : P.underlying t = some (.slice e)) (hc : P.cellsOf e = wd) (hw : 0 < wd) (hagg : agg = false → wd = 1) (he : Opn P e S) :
    Opn P t (SSlc wd agg S) := by
  intro H enc W fuel cs x h
  rcases DataW.trod_slice ht h with ⟨rfl, _⟩ | ⟨a, len, cap, elems, rest, n, rfl, rfl, _, _, hl, hm, hlen, hel, _⟩
  · exact ⟨[.lst wd []], by simp only [Reps, Rep]; exact ⟨_, [], rfl, ⟨none, 0, rfl, Nat.le_refl _, by simp, fun h => absurd rfl h⟩, rfl⟩, ⟨[], by simp, rfl, Nat.zero_le _⟩, by simp [Value.oneCell']⟩
  · obtain ⟨b, off, spot⟩ := a
    have step : ∀ m, m ≤ len → ∃ es : List (List AV), es.length = m ∧ (∀ d ∈ es, S d ∧ d.length = wd) ∧ (m ≠ 0 → spot = none ∧ b < W.heap.size) ∧ (spot = none → RepL W (allF W) b off wd (es.map (packA agg))) := by
      intro m
      induction m with
      | zero => exact fun _ => ⟨[], rfl, by simp, fun h => absurd rfl h, fun _ => by simp [RepL]⟩
      | succ m ih =>
        intro hm'
        obtain ⟨es, e1, e2, e3, e4⟩ := ih (by omega)
        have h1 := hel m (by omega)
        rw [List.getElem?_eq_getElem (by omega)] at h1
        obtain ⟨cs, c1, c2⟩ := Option.bind_eq_some_iff.1 h1
        rw [hc] at c1
        have hsp : spot = none ∧ b < W.heap.size := by
          by_cases hm0 : m = 0
          · subst hm0
            rw [Nat.zero_mul, add_zero'] at c1
            have c1' := c1
            unfold World.cells? at c1'
            rw [if_pos (Nat.zero_le _)] at c1'
            have h0 := mapM_some_get c1' 0 0 (by simp [hw])
            have hl0 := mapM_some_length c1'
            cases hcs : cs with
            | nil => rw [hcs] at hl0; simp at hl0; omega
            | cons v vs =>
              rw [hcs, add_zero'] at h0
              have h0' : W.cell? ⟨b, off, spot⟩ = some v := by simpa using h0
              have hs : spot = none := World.cell?_spot h0'
              subst hs
              refine ⟨rfl, ?_⟩
              simp only [World.cell?] at h0'
              cases hh : W.heap[b]? with
              | none => rw [hh] at h0'; simp at h0'
              | some o => exact (Array.getElem?_eq_some_iff.1 hh).1
          · exact e3 hm0
        obtain ⟨rfl, hb⟩ := hsp
        rw [add_none] at c1
        obtain ⟨hcl, hH⟩ := holds_cells c1 hb
        obtain ⟨ds, r1, r2, r3⟩ := he enc W _ _ _ c2
        have hdl : ds.length = wd := by rw [← hcl]; exact r1.length.symm
        refine ⟨es ++ [ds], by simp [e1], ?_, fun _ => ⟨rfl, hb⟩, fun _ => ?_⟩
        · intro d hd
          rcases List.mem_append.1 hd with hd | hd
          · exact e2 d hd
          · rw [List.mem_singleton.1 hd]; exact ⟨r2, hdl⟩
        · rw [List.map_append]
          refine RepL.append (e4 rfl) ?_
          rw [List.length_map, e1]
          simp only [List.map_cons, List.map_nil, RepL, and_true]
          cases agg with
          | true => exact ⟨.agg cs.toArray, by simp only [packA, Rep]; exact ⟨cs, rfl, r1, r3⟩, by simpa [Value.cells] using hcl, by simpa [Value.cells] using hH⟩
          | false =>
            have h1 := hagg rfl
            subst h1
            cases cs with
            | nil => simp at hcl
            | cons c cs =>
              have : cs = [] := by simpa using hcl
              subst this
              cases ds with
              | nil => simp at hdl
              | cons d ds =>
                have : ds = [] := by simpa using hdl
                subst this
                have hone := r3 c List.mem_cons_self
                have hcc : c.cells = #[c] := cells_one hone
                refine ⟨c, ?_, by rw [hcc]; rfl, by rw [hcc]; simpa using hH⟩
                simp only [Reps] at r1
                obtain ⟨x, xs, hx, hx2, hx3⟩ := r1
                cases hx
                simpa [packA] using hx2
    obtain ⟨es, e1, e2, e3, e4⟩ := step len (Nat.le_refl _)
    refine ⟨[.lst wd (es.map (packA agg))], ?_, ⟨es, e2, rfl, by omega⟩, by simp [Value.oneCell']⟩
    simp only [Reps]
    refine ⟨_, [], rfl, ?_, rfl⟩
    simp only [Rep]
    refine ⟨_, cap, by rw [List.length_map, e1], by rw [List.length_map, e1]; exact hl, ?_, fun hne => ?_⟩
    · rw [List.length_map, e1]
      have : maxLen ≤ 9223372036854775807 := by decide
      omega
    · have hl0 : len ≠ 0 := by
        intro h0
        rw [h0] at e1
        exact hne (by rw [List.length_eq_zero_iff.1 e1]; rfl)
      obtain ⟨rfl, hb⟩ := e3 hl0
      exact ⟨b, off, rfl, e4 rfl⟩

theorem SSlc.bytes {a : AV} (h : SSlc 1 false (SInt .u8) [a]) : ∃ bs : List UInt8, a = .lst 1 (bs.map byteA) ∧ bs.length ≤ maxLen := by
  obtain ⟨es, h1, h2, h3⟩ := h
  have key : ∀ es : List (List AV), (∀ d ∈ es, SInt .u8 d ∧ d.length = 1) → ∃ bs : List UInt8, es.map (packA false) = bs.map byteA ∧ bs.length = es.length := by
    intro es
    induction es with
    | nil => exact fun _ => ⟨[], rfl, rfl⟩
    | cons d es ih =>
      intro h
      obtain ⟨bs, e1, e2⟩ := ih fun d hd => h d (List.mem_cons_of_mem _ hd)
      obtain ⟨⟨n, hd, hw⟩, _⟩ := h d List.mem_cons_self
      have hn : 0 ≤ n ∧ n ≤ 255 := bounds_u8 hw
      refine ⟨UInt8.ofNat n.toNat :: bs, ?_, by simp [e2]⟩
      rw [List.map_cons, List.map_cons, e1, hd]
      congr 1
      simp only [packA, List.headD, byteA]
      congr 2
      rw [UInt8.toNat_ofNat']
      omega
  obtain ⟨bs, e1, e2⟩ := key es h1
  rw [e1] at h2
  exact ⟨bs, by simpa using h2, by omega⟩
/-- An argument, from its reading. -/
theorem Opn.one {P : Program} {t : Nat} {S : List AV → Prop} (ho : Opn P t S) {H : Type} {enc : TypeId × Value → H} {W : World} {v : Value} {d : DataW H} {ps : List MemPlace}
    (hone : v.oneCell' = true) (hd : DataW.Trod enc P W 0 (fun _ => true) true t v d ps) : ∃ a, Rep W (allF W) a v ∧ S [a] := by
  obtain ⟨fuel, hf⟩ := hd
  rw [cells_one hone] at hf
  obtain ⟨ds, r1, r2, _⟩ := ho enc W fuel _ _ hf
  simp only [Reps] at r1
  cases ds with
  | nil => simp [Reps] at r1
  | cons d ds =>
    simp only [Reps] at r1
    obtain ⟨x, xs, hx, hx2, hx3⟩ := r1
    cases hx
    cases ds with
    | nil => exact ⟨d, hx2, r2⟩
    | cons e es => simp [Reps] at hx3
theorem Opn.agg {P : Program} {t : Nat} {S : List AV → Prop} (ho : Opn P t S) {H : Type} {enc : TypeId × Value → H} {W : World} {cs : Array Value} {d : DataW H} {ps : List MemPlace}
    (hd : DataW.Trod enc P W 0 (fun _ => true) true t (.agg cs) d ps) : ∃ ds, Rep W (allF W) (.st ds) (.agg cs) ∧ S ds := by
  obtain ⟨fuel, hf⟩ := hd
  obtain ⟨ds, r1, r2, r3⟩ := ho enc W fuel _ _ hf
  refine ⟨ds, ?_, r2⟩
  simp only [Rep]
  exact ⟨cs.toList, by simp, by simpa [Value.cells] using r1, by simpa [Value.cells] using r3⟩
end Go.Proofs.YtghnigbihllnmaaGreat.Hl

/- From a contract to a given statement: the law that returns true and changes nothing. -/
set_option linter.unusedVariables false
set_option linter.unusedSimpArgs false
namespace Go.Proofs.YtghnigbihllnmaaGreat.Hl
open Go Go.RowKit Go.ChangeShapes

def aggT (P : Program) (t : Nat) : Bool := match P.underlying t with
  | some (.struct _) => true
  | some (.array _ _) => true
  | _ => false
theorem cell_one {P : Program} {w : World} {r : Reach} {b t : Nat} {v : Value} (h : Cell.okWide P w r b t v) : v.oneCell' = true := by
  cases v <;> first | rfl | (exfalso; unfold Cell.okWide at h; split at h <;> first | (rename_i e; cases e; done) | (rename_i e _; cases e; done) | (unfold Cell.ok at h; split at h <;> simp_all))
theorem okWide_shape {P : Program} {w : World} {r : Reach} {b t : Nat} {v : Value} (h : Value.okWide P w r b t v) : (aggT P t = true → ∃ cs, v = .agg cs) ∧ (aggT P t = false → v.oneCell' = true) := by
  unfold Value.okWide at h
  unfold aggT
  split at h
  · rename_i fs e; rw [e]; exact ⟨fun _ => h.imp fun _ k => k.1, fun h => by cases h⟩
  · rename_i n e' e; rw [e]; exact ⟨fun _ => h.imp fun _ k => k.1, fun h => by cases h⟩
  · rename_i h1 h2
    refine ⟨fun hx => ?_, fun _ => cell_one h⟩
    split at hx
    · rename_i e; exact absurd e (h1 _)
    · rename_i e; exact absurd e (h2 _ _)
    · cases hx

/-- The arguments: type, whether a row of cells, what is known. -/
def SA : List (Nat × Bool × (List AV → Prop)) → List AV → Prop
  | [], as => as = []
  | (_, true, S) :: r, as => ∃ ds as', as = .st ds :: as' ∧ S ds ∧ SA r as'
  | (_, false, S) :: r, as => ∃ a as', as = a :: as' ∧ S [a] ∧ SA r as'
def OpA (P : Program) : List (Nat × Bool × (List AV → Prop)) → Prop
  | [] => True
  | (T, agg, S) :: r => Opn P T S ∧ aggT P T = agg ∧ P.readableRec T = true ∧ T < P.types.size ∧ OpA P r
theorem trodAll_reps {H : Type} {enc : TypeId × Value → H} {P : Program} {W : World} {rc : Reach} {b0 : Nat} : ∀ {al : List (Nat × Bool × (List AV → Prop))} {vs : List Value} {ds : List (DataW H)} {p : List MemPlace},
    DataW.TrodAll enc P W 0 (fun _ => true) true (al.map (·.1)) vs ds p → (∀ (j t : Nat) (v : Value), (al.map (·.1))[j]? = some t → vs[j]? = some v → Value.okWide P W rc b0 t v) → OpA P al →
    (∃ as, Reps W (allF W) as vs ∧ SA al as) ∧ ds.length = al.length
  | [], vs, ds, p, h, _, _ => by
    obtain ⟨rfl, rfl, rfl⟩ := trodAll_nil h
    exact ⟨⟨[], by simp [Reps], rfl⟩, rfl⟩
  | (T, agg, S) :: r, vs, ds, p, h, hv, ho => by
    obtain ⟨v, vs, d, ds, p1, q1, rfl, rfl, rfl, h1, h2⟩ := trodAll_cons h
    obtain ⟨o1, o2, _, _, o5⟩ := ho
    obtain ⟨⟨as, r1, r2⟩, r3⟩ := trodAll_reps h2 (fun j t v hj hjv => hv (j + 1) t v (by simpa using hj) (by simpa using hjv)) o5
    have hk := okWide_shape (hv 0 T v (by simp) (by simp))
    refine ⟨?_, by simp [r3]⟩
    cases agg with
    | true =>
      obtain ⟨cs, rfl⟩ := hk.1 o2
      obtain ⟨ds', s1, s2⟩ := o1.agg h1
      exact ⟨.st ds' :: as, by simp only [Reps]; exact ⟨_, _, rfl, s1, r1⟩, ds', as, rfl, s2, r2⟩
    | false =>
      obtain ⟨a, s1, s2⟩ := o1.one (hk.2 o2) h1
      exact ⟨a :: as, by simp only [Reps]; exact ⟨_, _, rfl, s1, r1⟩, a, as, rfl, s2, r2⟩
theorem trodAll_below {H : Type} {enc : TypeId × Value → H} {P : Program} {W W' : World} (hl : laidOutB P = true) (hb : Below W.heap.size W W') : ∀ {al : List (Nat × Bool × (List AV → Prop))} {vs : List Value} {ds : List (DataW H)} {p : List MemPlace},
    DataW.TrodAll enc P W 0 (fun _ => true) true (al.map (·.1)) vs ds p → OpA P al → DataW.TrodAll enc P W' 0 (fun b => decide (b < W.heap.size)) true (al.map (·.1)) vs ds p
  | [], vs, ds, p, h, _ => by
    obtain ⟨rfl, rfl, rfl⟩ := trodAll_nil h
    exact trodAll_mk0
  | (T, agg, S) :: r, vs, ds, p, h, ho => by
    obtain ⟨v, vs, d, ds, p1, q1, rfl, rfl, rfl, h1, h2⟩ := trodAll_cons h
    obtain ⟨o1, o2, o3, o4, o5⟩ := ho
    have lt : ∀ x ∈ p1, x.block < W.heap.size := by obtain ⟨m, hm⟩ := h1; exact DataW.trod_lt m _ _ _ hm
    exact trodAll_cons_mk (Below.trod hl o3 o4 h1 hb lt) (trodAll_below hl hb h2 o5)

theorem callRes_calls {P : Program} {f : Nat} {fn : Func} {c : Code} {vs : Array Value} {w : World} {R : Value → World → Prop} (hf : P.funcs[f]? = some fn) (hb : fn.body = some c) (hn : (fn.name == "runtime.NumGoroutine") = false) (h : CallRes P f vs w R) :
    Calls P f vs w fun e w' => ∃ v, e = .returned v ∧ R v w' := by
  have hrun : (callFunc f vs).run P w = .ok (.enter f vs) w := by
    simp only [callFunc, Sem.run_bind, run_program, Result.andThen_ok, hf]
    rw [if_neg (by rw [hn]; simp)]
    rw [if_neg (by rw [hb]; simp)]
    rfl
  unfold CallRes at h
  rw [hrun] at h
  exact h

/-- What the statement asks of the call, from a contract: it returns true, and what came in reads as before. -/
theorem law_calls {P : Program} {f : Nat} {fn : Func} {s : ChangeSpec} {apart fresh handsOn : Bool} {tb : Nat} (al : List (Nat × Bool × (List AV → Prop))) {H : Type} {enc : TypeId × Value → H}
    (hf : P.funcs[f]? = some fn) (hb : fn.body.isSome = true) (hn : (fn.name == "runtime.NumGoroutine") = false) (hp : fn.params.toList = al.map (·.1)) (hres : fn.resultTypes = #[tb]) (htb : P.underlying tb = some .bool)
    (hvars : s.vars = []) (hs : ∀ ds : List (DataW H), ds.length = al.length → s.fn H ds = { results := [.lit (.bool true)], args := ds }) (hl : laidOutB P = true) (ho : OpA P al) (hc : ∀ as, SA al as → PC P f as (.raw (.bool true)))
    (W : World) (base : Nat) (args : Array Value) (ds gs : List (DataW H)) (before : List MemPlace)
    (hval : ∀ (j : Nat) t v, fn.params[j]? = some t → args[j]? = some v → Value.okWide P W .any base t v) (hW : DataW.Whole enc P fn.params.toList s.vars apart W args.toList ds gs before) :
    Calls P f args W fun e W' => ∃ v, e = .returned v ∧ s.post enc P fn apart fresh handsOn false W args v W' := by
  obtain ⟨c, hb⟩ := Option.isSome_iff_exists.1 hb
  have hW' := hW
  obtain ⟨p, q, hA, hV, rfl, hfz, hnd⟩ := hW
  rw [hp] at hA
  rw [hvars] at hV
  obtain ⟨rfl, rfl⟩ := trodVars_none hV
  obtain ⟨⟨as, r1, r2⟩, r3⟩ := trodAll_reps hA (fun j t v hj hjv => hval j t v (by rw [← hp] at hj; simpa using hj) (by simpa using hjv)) ho
  refine (callRes_calls hf hb hn (hc as r2 W (allF W) args.toList (allF_wf W) r1)).mono fun e W' ⟨v, he, F', hx, hrep⟩ => ?_
  simp only [Rep] at hrep
  obtain rfl := hrep.1
  have bel := below_of_ext hx
  refine ⟨_, he, ds, [], _, [], p, [], hW', ?_, ?_, ?_, bel.frame _, fun h => by cases h⟩
  · rw [List.append_nil, hs ds r3, hres]
    exact trodAll_mk1 (shut_bool htb _)
  · rw [List.append_nil, hs ds r3, hp]
    exact trodAll_below hl bel hA ho
  · rw [List.append_nil, hs ds r3, hvars]
    exact rfl
theorem SSlc.bytes1 {ds : List AV} (h : SSlc 1 false (SInt .u8) ds) : ∃ bs : List UInt8, ds = [.lst 1 (bs.map byteA)] ∧ bs.length ≤ maxLen := by
  obtain ⟨es, h1, h2, h3⟩ := h
  subst h2
  obtain ⟨bs, hb, hl⟩ := SSlc.bytes ⟨es, h1, rfl, h3⟩
  exact ⟨bs, by rw [hb], hl⟩
end Go.Proofs.YtghnigbihllnmaaGreat.Hl
