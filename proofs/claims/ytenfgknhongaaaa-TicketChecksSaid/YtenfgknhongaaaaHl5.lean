/- What an operation that writes nothing comes to, the last part: slices of slices, tuples, structs built, boxes and slices that nobody writes, len, min, max. No condition. -/
import Derived.Test.YtenfgknhongaaaaHl4
set_option linter.unusedVariables false
set_option linter.unusedSimpArgs false

namespace Go.Proofs.Ytenfgknhongaaaa.Hl
open Go

/-! ### Slices -/
/-- An optional bound as a number: 'def' where there is none. -/
def bndA (dflt : Nat) : Option AV → Option Int
  | none => some dflt
  | some (.raw (.int _ n)) => some n
  | _ => none
def sliceA (k : TK) (es : Nat) (x : AV) (lo hi mx : Option AV) : Option (Prop × AV) :=
  match k, x with
  | .str, .raw (.string s) => match bndA 0 lo, bndA s.size hi, mx with
    | some l, some h, none => some (0 ≤ l ∧ l ≤ h ∧ h ≤ s.size, .raw (.string (s.extract l.toNat h.toNat)))
    | _, _, _ => none
  | .slc _, .lst wd l => match bndA 0 lo, bndA l.length hi, bndA l.length mx with
    | some a, some b, some m => some (wd = es ∧ 0 ≤ a ∧ a ≤ b ∧ b ≤ m ∧ m ≤ l.length, .lst wd ((l.drop a.toNat).take (b.toNat - a.toNat)))
    | _, _, _ => none
  | .slc _, .raw (.slice (some ⟨k, off, none⟩) n c) => match bndA 0 lo, bndA n hi, mx with
    | some a, some b, none => some (0 ≤ a ∧ a ≤ b ∧ b ≤ c, .raw (.slice (some ⟨k, off + (if (c : Int) = a then 0 else a.toNat * es), none⟩) (b.toNat - a.toNat) (c - a.toNat)))
    | _, _, _ => none
  | _, _ => none

theorem run_sliceBound {P : Program} {w : World} {k : IntKind} {n : Int} {y : Nat} {code : BoundsCode} (h0 : 0 ≤ n) (h1 : n ≤ y) : (Instr.sliceBound (.int k n) y code).run P w = .ok n.toNat w := by
  simp [Instr.sliceBound, asIntOf, h0, h1]

/-- A bound's operand. -/
def bndV (ev : Operand → Value) (dflt : Nat) (lo : Option Operand) : Value := match lo with
  | none => .int .i64 dflt
  | some x => ev x
theorem bnd_rep {w : World} {F : Frz} {ρ : Operand → AV} {ev : Operand → Value} {dflt : Nat} {lo : Option Operand} {n : Int} (h : bndA dflt (lo.map ρ) = some n) (hr : ∀ x, lo = some x → Rep w F (ρ x) (ev x)) :
    (lo = none ∧ n = dflt) ∨ ∃ x k, lo = some x ∧ ev x = .int k n := by
  cases lo with
  | none => simp [bndA] at h; exact .inl ⟨rfl, h.symm⟩
  | some x =>
    right
    have h1 := hr x rfl
    simp only [Option.map_some] at h
    generalize ρ x = d at *
    cases d with
    | raw v =>
      cases v with
      | int k m => simp only [bndA] at h; injection h with h; subst h; simp only [Rep] at h1; exact ⟨x, k, rfl, h1.1⟩
      | _ => simp [bndA] at h
    | _ => simp [bndA] at h

theorem run_sliceBounds2 {P : Program} {w : World} {ev : Operand → Value} {isS : Bool} {len cap : Nat} {lo hi : Option Operand} {l h : Int}
    (hl : (lo = none ∧ l = 0) ∨ ∃ x k, lo = some x ∧ ev x = .int k l) (hh : (hi = none ∧ h = len) ∨ ∃ x k, hi = some x ∧ ev x = .int k h) (h0 : 0 ≤ l) (h1 : l ≤ h) (h2 : h ≤ cap) :
    (Instr.sliceBounds isS len cap (lo.map ev) (hi.map ev) none).run P w = .ok (l.toNat, h.toNat, cap) w := by
  have e1 : ∀ y : Nat, h = y → l ≤ y := fun y hy => by omega
  rcases hl with ⟨rfl, rfl⟩ | ⟨x, k, rfl, ex⟩ <;> rcases hh with ⟨rfl, rfl⟩ | ⟨y, k', rfl, ey⟩ <;>
    simp only [Instr.sliceBounds, Option.map_none, Option.map_some, Sem.run_bind, Sem.run_pure, Result.andThen_ok]
  · simp
  · rw [ey, run_sliceBound (by omega) h2]; simp
  · rw [ex, run_sliceBound h0 h1]; simp
  · rw [ey, run_sliceBound (by omega) h2]
    simp only [Result.andThen_ok]
    rw [ex, run_sliceBound h0 (by omega)]
    simp
theorem run_sliceBounds3 {P : Program} {w : World} {ev : Operand → Value} {isS : Bool} {len cap : Nat} {lo : Option Operand} {x : Operand} {k0 : IntKind} {l h m : Int}
    (hl : (lo = none ∧ l = 0) ∨ ∃ x k, lo = some x ∧ ev x = .int k l) {y : Operand} {k' : IntKind} (ey : ev y = .int k' h) (ex0 : ev x = .int k0 m) (h0 : 0 ≤ l) (h1 : l ≤ h) (h2 : h ≤ m) (h3 : m ≤ cap) :
    (Instr.sliceBounds isS len cap (lo.map ev) (some (ev y)) (some (ev x))).run P w = .ok (l.toNat, h.toNat, m.toNat) w := by
  rcases hl with ⟨rfl, rfl⟩ | ⟨x', k, rfl, ex⟩ <;>
    simp only [Instr.sliceBounds, Option.map_none, Option.map_some, Sem.run_bind, Sem.run_pure, Result.andThen_ok]
  · rw [ex0, run_sliceBound (by omega) h3]
    simp only [Result.andThen_ok]
    rw [ey, run_sliceBound (by omega) (by omega)]
    simp
  · rw [ex0, run_sliceBound (by omega) h3]
    simp only [Result.andThen_ok]
    rw [ey, run_sliceBound (by omega) (by omega)]
    simp only [Result.andThen_ok]
    rw [ex, run_sliceBound h0 (by omega)]
    simp

theorem vs_slice {P : Program} {o : Oper} {ρ : Operand → AV} {own : Own} {T : Nat} {x : Operand} {lo hi mx : Option Operand} {i e : TI} {c : Prop} {d : AV} (h : o.op = .slice T x lo hi mx) (hi' : ti P T = some i) (he : ti P (elemOfK i.k) = some e ∨ i.k = .str)
    (hd : sliceA i.k e.size (ρ x) (lo.map ρ) (hi.map ρ) (mx.map ρ) = some (c, d)) (hc : c) (hmx : mx.isSome = true → hi.isSome = true) : VSem P o ρ own d := by
  obtain ⟨info, td, z, e1, e2, e3, e4, e5, e6, e7⟩ := ti_spec hi'
  refine VSem.of_run fun w F ev hf ho hr => ?_
  have h1 := hr x (by simp [h, Op.operands])
  have hlo : ∀ y, lo = some y → Rep w F (ρ y) (ev y) := fun y hy => hr y (by simp [h, Op.operands, hy])
  have hhi : ∀ y, hi = some y → Rep w F (ρ y) (ev y) := fun y hy => hr y (by simp [h, Op.operands, hy])
  have hmx' : ∀ y, mx = some y → Rep w F (ρ y) (ev y) := fun y hy => hr y (by simp [h, Op.operands, hy])
  have key : ∀ y, (Instr.sliceAt T (ev x) (lo.map ev) (hi.map ev) (mx.map ev)).run P w = .ok y w → (execOp ev o).run P w = .ok (.value y) w := fun y hy => by
    simp only [execOp, h]
    rw [Sem.run_bind, hy]
    rfl
  generalize ρ x = dx at *
  unfold sliceA at hd
  split at hd
  · rename_i s hk
    split at hd
    · rename_i l hh hl1 hl2 hl3
      injection hd with hd; injection hd with hd1 hd2; subst hd1; subst hd2
      have b1 := bnd_rep hl1 hlo
      have b2 := bnd_rep hl2 hhi
      have b3 : mx = none := by cases mx <;> simp at hl3 ⊢
      subst b3
      simp only [Rep] at h1
      refine ⟨_, key _ ?_, by simp [Rep, Value.oneCell']; rfl⟩
      rw [e3] at hk
      have := TK.of_str hk
      subst this
      simp only [Instr.sliceAt, Sem.run_bind, run_underlying e2, Result.andThen_ok, Instr.slice, h1.1, Option.map_none]
      have := run_sliceBounds2 (P := P) (w := w) (isS := false) (cap := s.size) b1 b2 hc.1 hc.2.1 hc.2.2
      simp only [Option.isSome_none, Bool.false_eq_true, if_false, Sem.run_bind, Sem.run_pure, Result.andThen_ok, this]
    · cases hd
  · rename_i el wd l hk
    split at hd
    · rename_i a b m hl1 hl2 hl3
      injection hd with hd; injection hd with hd1 hd2; subst hd1; subst hd2
      have b1 := bnd_rep hl1 hlo
      have b2 := bnd_rep hl2 hhi
      have b3 := bnd_rep hl3 hmx'
      simp only [Rep] at h1
      obtain ⟨A, cp, ex, g1, g2, g3⟩ := h1
      obtain ⟨hw, ha0, hab, hbm, hml⟩ := hc
      obtain ⟨m', hm', hmc⟩ : ∃ m' : Nat, (Instr.sliceBounds true l.length cp (lo.map ev) (hi.map ev) (mx.map ev)).run P w = .ok (a.toNat, b.toNat, m') w ∧ m.toNat ≤ m' ∧ m' ≤ cp := by
        rcases b3 with ⟨rfl, rfl⟩ | ⟨y, k0, rfl, ey⟩
        · exact ⟨cp, run_sliceBounds2 b1 b2 ha0 hab (by omega), by omega, Nat.le_refl _⟩
        · rcases b2 with ⟨rfl, rfl⟩ | ⟨y', k', rfl, ey'⟩
          · simp at hmx
          · exact ⟨m.toNat, run_sliceBounds3 b1 ey' ey ha0 hab hbm (by omega), Nat.le_refl _, by omega⟩
      rw [e3] at hk
      have he' : ti P (elemOfK i.k) = some e := by
        rcases he with he | he
        · exact he
        · rw [e3, hk] at he; cases he
      obtain ⟨ei, f1, f2⟩ : ∃ ei, P.info? (elemOfK i.k) = some ei ∧ ei.size = e.size := by obtain ⟨a, _, _, b, _, _, c, _⟩ := ti_spec he'; exact ⟨a, b, c⟩
      cases td <;> simp only [TK.of] at hk <;> first | cases hk | skip
      rename_i e'
      simp only [e3, elemOfK, TK.of] at f1
      refine ⟨.slice (if m' = a.toNat then A else A.map (·.add (a.toNat * e.size))) (b.toNat - a.toNat) (m' - a.toNat), key _ ?_, ?_⟩
      · simp only [Instr.sliceAt, Sem.run_bind, run_underlying e2, Result.andThen_ok, Instr.slice, ex, hm', run_sizeOf f1, f2, Sem.run_pure]
      · simp only [Rep]
        have hlen : ((l.drop a.toNat).take (b.toNat - a.toNat)).length = b.toNat - a.toNat := by simp; omega
        refine ⟨_, _, by rw [hlen], by rw [hlen]; omega, by rw [hlen]; omega, fun hne => ?_⟩
        have hne' : l ≠ [] := by intro hl; subst hl; simp at hne
        have hlt : a.toNat < b.toNat := by
          rcases Nat.lt_or_ge a.toNat b.toNat with h' | h'
          · exact h'
          · exact absurd (by rw [Nat.sub_eq_zero_of_le h']; rfl) hne
        obtain ⟨k, off, rfl, hL⟩ := g3 hne'
        rw [if_neg (by omega)]
        refine ⟨k, off + a.toNat * e.size, by simp [Addr.add_plain], ?_⟩
        rw [← hw]
        exact hL.sub a.toNat (b.toNat - a.toNat)
    · cases hd
  · rename_i el k off n cp hk
    split at hd
    · rename_i a b hl1 hl2 hl3
      injection hd with hd; injection hd with hd1 hd2; subst hd1; subst hd2
      have b1 := bnd_rep hl1 hlo
      have b2 := bnd_rep hl2 hhi
      have b3 : mx = none := by cases mx <;> simp at hl3 ⊢
      subst b3
      simp only [Rep] at h1
      refine ⟨_, key _ ?_, by simp only [Rep]; exact ⟨rfl, rfl⟩⟩
      have hm' := run_sliceBounds2 (P := P) (w := w) (isS := true) (cap := cp) b1 b2 hc.1 hc.2.1 hc.2.2
      rw [e3] at hk
      have he' : ti P (elemOfK i.k) = some e := by
        rcases he with he | he
        · exact he
        · rw [e3, hk] at he; cases he
      obtain ⟨ei, f1, f2⟩ : ∃ ei, P.info? (elemOfK i.k) = some ei ∧ ei.size = e.size := by obtain ⟨a, _, _, b, _, _, c, _⟩ := ti_spec he'; exact ⟨a, b, c⟩
      cases td <;> simp only [TK.of] at hk <;> first | cases hk | skip
      simp only [e3, elemOfK, TK.of] at f1
      simp only [Instr.sliceAt, Sem.run_bind, run_underlying e2, Result.andThen_ok, Instr.slice, h1.1, hm', run_sizeOf f1, f2, Sem.run_pure, Option.map_none]
      congr 3
      by_cases hac : (cp : Int) = a
      · rw [if_pos (by omega), if_pos hac]; simp
      · rw [if_neg (by omega), if_neg hac]; simp [Addr.add_plain]
    · cases hd
  · cases hd

/-! ### Tuples -/
def extractA (x : AV) (i : Nat) : Option AV :=
  match x with
  | .tup ds => ds[i]?
  | _ => none
theorem vs_extract {P : Program} {o : Oper} {ρ : Operand → AV} {own : Own} {x : Operand} {i : Nat} {d : AV} (h : o.op = .extract x i) (hd : extractA (ρ x) i = some d) : VSem P o ρ own d := by
  refine VSem.of_run fun w F ev hf ho hr => ?_
  have h1 := hr x (by simp [h, Op.operands])
  generalize ρ x = dx at *
  unfold extractA at hd
  split at hd
  · simp only [Rep] at h1
    obtain ⟨xs, e, hx⟩ := h1
    obtain ⟨y, hy, hr⟩ := hx.get i d hd
    exact ⟨y, by simp [execOp, h, e, Instr.extract, hy], hr⟩
  · cases hd

/-! ### Structs built -/
/-- The cells cs with those from off on replaced. -/
def putCells (cs : List AV) (off : Nat) (new : List AV) : List AV := cs.take off ++ new ++ cs.drop (off + new.length)

def fitQ (q : FI) : AV → Prop
  | .st cs => q.agg = true ∧ cs.length = q.size
  | .tup _ | .any => False
  | _ => q.agg = false ∧ q.size = 1
theorem fitQ_fitA {off : Nat} {i : TI} {d : AV} (h : fitQ ⟨off, i.size, i.k.agg⟩ d) : fitA i d := by
  cases d <;> simp only [fitQ] at h <;> simp only [fitA] <;> exact h
def buildA (P : Program) (S : Nat) : List (Nat × AV) → List AV → Option (Prop × List AV)
  | [], cs => some (True, cs)
  | (f, d) :: rest, cs => match fi P S f with
    | some q => match buildA P S rest (putCells cs q.off (cellsA d)) with
      | some (c, r) => some ((fitQ q d ∧ q.off + q.size ≤ cs.length) ∧ c, r)
      | none => none
    | none => none
/-- All fields of a struct have a size. -/
def stOk (P : Program) (S : Nat) : Bool := match P.underlying S with
  | some (.struct fs) => fs.all fun f => (P.info? f.type).isSome
  | _ => false

theorem fill_step {cells : Array Value} {off : Nat} {new : Array Value} (h : off + new.size ≤ cells.size) :
    new.zipIdx.foldl (fun cs (c, j) => cs.setIfInBounds (off + j) c) cells = (cells.toList.take off ++ new.toList ++ cells.toList.drop (off + new.size)).toArray := by
  rw [← Array.foldl_toList, Array.toList_zipIdx]
  have key : ∀ (l : List Value) (s : Nat) (cur : List Value), off + s + l.length ≤ cur.length →
      (l.zipIdx s).foldl (fun cs (c, j) => cs.setIfInBounds (off + j) c) cur.toArray = (cur.take (off + s) ++ l ++ cur.drop (off + s + l.length)).toArray := by
    intro l
    induction l with
    | nil => intro s cur _; simp
    | cons x l ih =>
      intro s cur hl
      simp only [List.zipIdx_cons, List.foldl_cons, List.setIfInBounds_toArray]
      simp only [List.length_cons] at hl
      rw [ih (s + 1) (cur.set (off + s) x) (by simp; omega)]
      have e := list_seg_step cur (off + s) x l (by omega)
      simpa [Nat.add_assoc, Nat.add_comm 1] using e
  have := key new.toList 0 cells.toList (by simpa using h)
  simpa using this

theorem run_mapM {α β : Type} {P : Program} {w : World} {g : α → Sem β} {f : α → β} : ∀ {l : List α}, (∀ x ∈ l, (g x).run P w = .ok (f x) w) → (l.mapM g).run P w = .ok (l.map f) w
  | [], _ => by simp
  | x :: l, h => by
    rw [List.mapM_cons, Sem.run_bind, h x (by simp), Result.andThen_ok, Sem.run_bind, run_mapM fun y hy => h y (by simp [hy])]
    rfl

theorem fill_sound {P : Program} {S : Nat} {fs : Array Field} (hS : P.underlying S = some (.struct fs)) {w : World} {F : Frz} {sz : Field → Nat} (hsz : ∀ f ∈ fs, ∀ i, P.info? f.type = some i → sz f = i.size) :
    ∀ {parts : List (Nat × AV)} {vs : List (Nat × Value)} {cs r : List AV} {cells : Array Value} {c : Prop}, buildA P S parts cs = some (c, r) → c →
      parts.length = vs.length → (∀ (j : Nat) (p : Nat × AV) (q : Nat × Value), parts[j]? = some p → vs[j]? = some q → p.1 = q.1 ∧ Rep w F p.2 q.2) → Reps w F cs cells.toList → (∀ y ∈ cells.toList, y.oneCell' = true) →
      ∃ out : Array Value, Instr.fill ((fs.map fun f => (f.offset, sz f))[·]?) cells vs = some out ∧ Reps w F r out.toList ∧ ∀ y ∈ out.toList, y.oneCell' = true
  | [], vs, cs, r, cells, c, h, hc, hl, hp, hr, h1 => by
    have : vs = [] := List.eq_nil_of_length_eq_zero hl.symm
    subst this
    simp only [buildA] at h
    injection h with h; injection h with _ h; subst h
    exact ⟨cells, rfl, hr, h1⟩
  | (f, d) :: parts, [], cs, r, cells, c, h, hc, hl, hp, hr, h1 => by simp at hl
  | (f, d) :: parts, (f', v) :: vs, cs, r, cells, c, h, hc, hl, hp, hr, h1 => by
    obtain ⟨ef, hv⟩ := hp 0 (f, d) (f', v) rfl rfl
    simp only at ef hv
    subst ef
    simp only [buildA] at h
    split at h
    · rename_i q hq
      split at h
      · rename_i c' r' hb
        injection h with h; injection h with hc' h; subst h; subst hc'
        obtain ⟨⟨hfit, hlt⟩, hc2⟩ := hc
        obtain ⟨fs', g, i, q1, q2, q3, rfl⟩ := fi_spec hq
        rw [hS] at q1
        injection q1 with q1; injection q1 with q1; subst q1
        obtain ⟨info, td, z, e1, e2, e3, e4, e5, e6, e7⟩ := ti_spec q3
        obtain ⟨k1, k2, k3, k4, k5, k6⟩ := hv.cells (fitQ_fitA hfit)
        have hsg : sz g = i.size := (hsz g (Array.mem_of_getElem? q2) info e1).trans e4
        have hlen := hr.length
        simp only at hlt
        have hstep := fill_step (cells := cells) (off := g.offset) (new := v.cells) (by rw [k1]; simp at hlen; omega)
        obtain ⟨out, o1, o2, o3⟩ := fill_sound hS hsz (cells := (cells.toList.take g.offset ++ v.cells.toList ++ cells.toList.drop (g.offset + v.cells.size)).toArray) hb hc2 (by simpa using hl) (fun j p q hj hj' => hp (j + 1) p q hj hj')
          (by
            simp only [putCells]
            have : (cellsA d).length = v.cells.size := by rw [k4, k1]
            rw [this]
            exact ((hr.take g.offset).append k2).append (hr.drop (g.offset + v.cells.size)))
          (fun y hy => by
            simp only [List.mem_append] at hy
            rcases hy with (hy | hy) | hy
            · exact h1 y (List.mem_of_mem_take hy)
            · exact k3 y hy
            · exact h1 y (List.mem_of_mem_drop hy))
        refine ⟨out, ?_, o2, o3⟩
        simp only [Instr.fill, Array.getElem?_map, q2, Option.map_some, hsg, k1]
        rw [if_neg (by simp; simp at hlen; omega)]
        rw [← hstep] at o1
        simp only [Array.getElem?_map] at o1
        exact o1
      · cases h
    · cases h

def buildV (P : Program) (S : Nat) (parts : List (Nat × AV)) : Option (Prop × AV) :=
  match ti P S with
  | some i => match buildA P S parts (i.zero.map .raw) with
    | some (c, r) => some (stOk P S = true ∧ i.zero.all (·.oneCell') = true ∧ c, .st r)
    | none => none
  | none => none
theorem Reps.raws {w : World} {F : Frz} : ∀ {vs : List Value}, (∀ y ∈ vs, y.oneCell' = true) → Reps w F (vs.map .raw) vs
  | [], _ => by simp [Reps]
  | v :: vs, h => by
    simp only [List.map_cons, Reps]
    exact ⟨v, vs, rfl, by simp only [Rep]; exact ⟨trivial, h v (by simp)⟩, Reps.raws fun y hy => h y (by simp [hy])⟩

theorem vs_build {P : Program} {o : Oper} {ρ : Operand → AV} {own : Own} {S : Nat} {parts : Array (Nat × Operand)} {c : Prop} {d : AV} (h : o.op = .build S parts)
    (hd : buildV P S (parts.toList.map fun p => (p.1, ρ p.2)) = some (c, d)) (hc : c) : VSem P o ρ own d := by
  unfold buildV at hd
  split at hd
  · rename_i i hi
    split at hd
    · rename_i c' r hb
      injection hd with hd; injection hd with hd1 hd2; subst hd1; subst hd2
      obtain ⟨hst, hz1, hc'⟩ := hc
      obtain ⟨info, td, z, e1, e2, e3, e4, e5, e6, e7⟩ := ti_spec hi
      refine VSem.of_run fun w F ev hf ho hr => ?_
      obtain ⟨fs, hS⟩ : ∃ fs, P.underlying S = some (.struct fs) := by
        unfold stOk at hst
        split at hst
        · rename_i fs h'; exact ⟨fs, h'⟩
        · cases hst
      have hall : ∀ f ∈ fs, ∃ i, P.info? f.type = some i := by
        unfold stOk at hst
        rw [hS] at hst
        simp only [Array.all_eq_true_iff_forall_mem] at hst
        exact fun f hf => Option.isSome_iff_exists.1 (hst f hf)
      let sz : Field → Nat := fun f => ((P.info? f.type).map (·.size)).getD 0
      have hz1' : ∀ y ∈ i.zero, y.oneCell' = true := by simpa using hz1
      obtain ⟨out, o1, o2, o3⟩ := fill_sound hS (w := w) (F := F) (sz := sz) (fun f _ i' hi' => by simp [sz, hi']) (vs := parts.toList.map fun p => (p.1, ev p.2)) (cells := z.cells) hb hc' (by simp)
        (fun j p q hj hj' => by
          rw [List.getElem?_map] at hj hj'
          cases hp : parts.toList[j]? with
          | none => rw [hp] at hj; cases hj
          | some x =>
            rw [hp] at hj hj'
            injection hj with hj; injection hj' with hj'
            subst hj; subst hj'
            exact ⟨rfl, hr x.2 (by simp only [h, Op.operands]; simp only [List.mem_toArray, List.mem_map]; exact ⟨x, List.mem_of_getElem? hp, rfl⟩)⟩)
        (by rw [e7]; exact Reps.raws hz1') (by rw [e7]; exact hz1')
      refine ⟨.agg out, ?_, by simp only [Rep]; exact ⟨out.toList, by simp, o2, o3⟩⟩
      have hm : (fs.mapM fun f => (do pure (f.offset, ← sizeOf f.type) : Sem (Nat × Nat))).run P w = .ok (fs.map fun f => (f.offset, sz f)) w := by
        rw [Array.mapM_eq_mapM_toList, Sem.run_map]
        rw [run_mapM (f := fun f => (f.offset, sz f)) fun f hf => by
          obtain ⟨i', hi'⟩ := hall f (by simpa using hf)
          simp only [Sem.run_bind, run_sizeOf hi', Result.andThen_ok, Sem.run_pure, sz, hi', Option.map_some, Option.getD_some]]
        simp
        apply Array.ext'
        simp
      simp only [execOp, h, Instr.build, Sem.run_bind, run_zeroValue e1 e6, Result.andThen_ok, run_underlying hS, hm]
      have : (parts.map fun x => (x.1, ev x.2)).toList = parts.toList.map fun p => (p.1, ev p.2) := by simp
      rw [this, o1]
      rfl
    · cases hd
  · cases hd
end Go.Proofs.Ytenfgknhongaaaa.Hl
