/- What an operation that writes nothing comes to, continued: memory that is read, structs, slices, conversions. No condition. -/
import Derived.Test.YtenfgknhongaaaaHl2
set_option linter.unusedVariables false
set_option linter.unusedSimpArgs false

namespace Go.Proofs.Ytenfgknhongaaaa.Hl
open Go

theorem vs_raw {P : Program} {o : Oper} {ρ : Operand → AV} {own : Own} {v : Value} (hv : v.oneCell' = true)
    (h : ∀ w F (ev : Operand → Value), (∀ x ∈ o.op.operands, Rep w F (ρ x) (ev x)) → (execOp ev o).run P w = .ok (.value v) w) : VSem P o ρ own (.raw v) :=
  VSem.of_run fun w F ev _ _ hr => ⟨v, h w F ev hr, by simp [Rep, hv]⟩

theorem binV_one {op : BinOp} {a b v : Value} {c : Prop} (h : binV op a b = some (c, v)) : v.oneCell' = true := by
  unfold binV at h
  split at h <;> first
    | (injection h with h; injection h with h1 h2; subst h2; rfl)
    | cases h

theorem vs_bin {P : Program} {o : Oper} {ρ : Operand → AV} {own : Own} {op : BinOp} {T T' : Nat} {x y : Operand} {a b v : Value} {c : Prop} (h : o.op = .binOp op T x y T') (hx : ρ x = .raw a) (hy : ρ y = .raw b)
    (hv : binV op a b = some (c, v)) (hc : c) : VSem P o ρ own (.raw v) :=
  vs_raw (binV_one hv) fun w F ev hr => by
    have h1 := hr x (by simp [h, Op.operands])
    have h2 := hr y (by simp [h, Op.operands])
    rw [hx] at h1
    rw [hy] at h2
    simp only [Rep] at h1 h2
    have := binV_run (P := P) (w := w) (T := T) (x := x) (y := y) hv hc
    simp only [execOp, h, h1.1, h2.1]
    rw [Sem.run_bind, this]
    rfl

/-- '==' at bools, and at a slice, a pointer or a function value against nil. -/
def binE (op : BinOp) (k : TK) (x y : AV) : Option AV :=
  match op, k, x, y with
  | .eql, .bool, .raw (.bool a), .raw (.bool b) => some (.raw (.bool (a == b)))
  | .neq, .bool, .raw (.bool a), .raw (.bool b) => some (.raw (.bool (!(a == b))))
  | .eql, .slc _, .raw (.slice none _ _), .raw (.slice none _ _) => some (.raw (.bool true))
  | .neq, .slc _, .raw (.slice none _ _), .raw (.slice none _ _) => some (.raw (.bool false))
  | .eql, .slc _, .raw (.slice (some _) _ _), .raw (.slice none _ _) => some (.raw (.bool false))
  | .neq, .slc _, .raw (.slice (some _) _ _), .raw (.slice none _ _) => some (.raw (.bool true))
  | .eql, .ptr _, .raw (.pointer (some _)), .raw (.pointer none) => some (.raw (.bool false))
  | .neq, .ptr _, .raw (.pointer (some _)), .raw (.pointer none) => some (.raw (.bool true))
  | .eql, .ptr _, .raw (.pointer none), .raw (.pointer none) => some (.raw (.bool true))
  | .neq, .ptr _, .raw (.pointer none), .raw (.pointer none) => some (.raw (.bool false))
  | .eql, .ptr _, .ref _, .raw (.pointer none) => some (.raw (.bool false))
  | .neq, .ptr _, .ref _, .raw (.pointer none) => some (.raw (.bool true))
  | _, _, _, _ => none

section
variable {P : Program} {w : World} {T : Nat}
theorem run_equal_bool (e2 : P.underlying T = some .bool) (a b : Bool) : (Op.equal T (.bool a) (.bool b)).run P w = .ok (a == b) w := by
  unfold Op.equal Op.maxDepth Op.equalIn
  simp only [Sem.run_bind, run_underlying e2, Result.andThen_ok, Sem.run_pure]
theorem run_equal_sl {e : Nat} (e2 : P.underlying T = some (.slice e)) (A : Option Addr) (n c n' c' : Nat) : (Op.equal T (.slice A n c) (.slice none n' c')).run P w = .ok A.isNone w := by
  unfold Op.equal Op.maxDepth Op.equalIn
  cases A <;> simp only [Sem.run_bind, run_underlying e2, Result.andThen_ok, Sem.run_pure, Option.isNone]
theorem run_equal_ptr {e : Nat} (e2 : P.underlying T = some (.pointer e)) (A : Option Addr) : (Op.equal T (.pointer A) (.pointer none)).run P w = .ok A.isNone w := by
  unfold Op.equal Op.maxDepth Op.equalIn
  cases A <;> simp only [Sem.run_bind, run_underlying e2, Result.andThen_ok, Sem.run_pure, Option.isNone]
end
def eqK : Value → Bool
  | .bool _ | .slice .. | .pointer _ => true
  | _ => false
theorem run_eql {P : Program} {w : World} {T : Nat} {x y : Operand} {a b : Value} {t : Bool} (h : (Op.equal T a b).run P w = .ok t w) (ha : eqK a = true) (hb : eqK b = true) :
    (do eqGuard .eql T x y a b; binOp .eql T a b : Sem Value).run P w = .ok (.bool t) w ∧ (do eqGuard .neq T x y a b; binOp .neq T a b : Sem Value).run P w = .ok (.bool (!t)) w := by
  have hg : ∀ op, (eqGuard op T x y a b).run P w = .ok () w := fun op => run_eqGuard_raw P w op T x y a b (by cases a <;> simp [eqK] at ha ⊢)
  rw [Sem.run_bind, hg, Result.andThen_ok, Sem.run_bind, hg, Result.andThen_ok]
  have e1 : binOp .eql T a b = (do pure (.bool (← Op.equal T a b))) := by cases a <;> first | (simp [eqK] at ha; done) | (cases b <;> first | (simp [eqK] at hb; done) | rfl)
  have e2 : binOp .neq T a b = (do pure (.bool (!(← Op.equal T a b)))) := by cases a <;> first | (simp [eqK] at ha; done) | (cases b <;> first | (simp [eqK] at hb; done) | rfl)
  rw [e1, e2, Sem.run_bind, Sem.run_bind, h]
  exact ⟨rfl, rfl⟩

theorem TK.of_bool {td : TypeDesc} (h : TK.of td = .bool) : td = .bool := by cases td <;> simp [TK.of] at h ⊢
theorem TK.of_str {td : TypeDesc} (h : TK.of td = .str) : td = .string := by cases td <;> simp [TK.of] at h ⊢
theorem TK.of_int {td : TypeDesc} {k : IntKind} (h : TK.of td = .int k) : td = .int k := by cases td <;> simp [TK.of] at h ⊢; exact h
theorem TK.of_slc {td : TypeDesc} {e : Nat} (h : TK.of td = .slc e) : ∃ e, td = .slice e := by cases td <;> simp [TK.of] at h ⊢
theorem TK.of_ptr {td : TypeDesc} {e : Nat} (h : TK.of td = .ptr e) : ∃ e, td = .pointer e := by cases td <;> simp [TK.of] at h ⊢
theorem vs_binE {P : Program} {o : Oper} {ρ : Operand → AV} {own : Own} {op : BinOp} {T T' : Nat} {x y : Operand} {i : TI} {d : AV} (h : o.op = .binOp op T x y T') (hi : ti P T = some i)
    (hd : binE op i.k (ρ x) (ρ y) = some d) : VSem P o ρ own d := by
  obtain ⟨info, td, z, e1, e2, e3, e4, e5, e6, e7⟩ := ti_spec hi
  refine VSem.of_run fun w F ev _ _ hr => ?_
  have h1 := hr x (by simp [h, Op.operands])
  have h2 := hr y (by simp [h, Op.operands])
  generalize ρ x = dx at *
  generalize ρ y = dy at *
  rw [e3] at hd
  have key : ∀ (v : Value), (do eqGuard op T x y (ev x) (ev y); binOp op T (ev x) (ev y) : Sem Value).run P w = .ok v w → (execOp ev o).run P w = .ok (.value v) w := fun v hv => by
    simp only [execOp, h]
    rw [Sem.run_bind, hv]
    rfl
  have k1 : ∀ {t : Bool}, (Op.equal T (ev x) (ev y)).run P w = .ok t w → eqK (ev x) = true → eqK (ev y) = true → (op = .eql → d = .raw (.bool t)) → (op = .neq → d = .raw (.bool (!t))) → (op = .eql ∨ op = .neq) →
      ∃ v, (execOp ev o).run P w = .ok (.value v) w ∧ Rep w F d v := by
    intro t he ha hb q1 q2 q3
    have := run_eql (x := x) (y := y) he ha hb
    rcases q3 with rfl | rfl
    · rw [q1 rfl]; exact ⟨_, key _ this.1, by simp [Rep, Value.oneCell']⟩
    · rw [q2 rfl]; exact ⟨_, key _ this.2, by simp [Rep, Value.oneCell']⟩
  clear key
  unfold binE at hd
  split at hd <;> first
    | (injection hd with hd; subst hd)
    | cases hd
  all_goals
    rename_i ht
    simp only [Rep] at h1 h2
    first
      | (have e2' := TK.of_bool ht ▸ e2; refine k1 (by rw [h1.1, h2.1]; exact run_equal_bool e2' _ _) (by rw [h1.1]; rfl) (by rw [h2.1]; rfl) (by simp) (by simp) (by simp); done)
      | (obtain ⟨el, hel⟩ := TK.of_slc ht; have e2' := hel ▸ e2; refine k1 (by rw [h1.1, h2.1]; exact run_equal_sl e2' _ _ _ _ _) (by rw [h1.1]; rfl) (by rw [h2.1]; rfl) (by simp) (by simp) (by simp); done)
      | (obtain ⟨el, hel⟩ := TK.of_ptr ht; have e2' := hel ▸ e2; refine k1 (by rw [h1.1, h2.1]; exact run_equal_ptr e2' _) (by rw [h1.1]; rfl) (by rw [h2.1]; rfl) (by simp) (by simp) (by simp); done)
      | (obtain ⟨k, off, y, h1, _⟩ := h1; obtain ⟨el, hel⟩ := TK.of_ptr ht; have e2' := hel ▸ e2; refine k1 (by rw [h1, h2.1]; exact run_equal_ptr e2' _) (by rw [h1]; rfl) (by rw [h2.1]; rfl) (by simp) (by simp) (by simp); done)

def unV (op : UnOp) (x : Value) : Option Value :=
  match op, x with
  | .not, .bool b => some (.bool (!b))
  | .neg, .int k n => some (.int k (k.wrap (0 - n)))
  | _, _ => none
theorem vs_un {P : Program} {o : Oper} {ρ : Operand → AV} {own : Own} {op : UnOp} {T : Nat} {x : Operand} {a v : Value} (h : o.op = .unOp op T x) (hx : ρ x = .raw a) (hv : unV op a = some v) : VSem P o ρ own (.raw v) := by
  refine vs_raw ?_ fun w F ev hr => ?_
  · unfold unV at hv
    split at hv <;> first | (injection hv with hv; subst hv; rfl) | cases hv
  · have h1 := hr x (by simp [h, Op.operands])
    rw [hx] at h1
    simp only [Rep] at h1
    unfold unV at hv
    split at hv <;> first
      | (injection hv with hv; subst hv; simp [execOp, h, h1.1, Op.unary, Op.intArith])
      | cases hv

/-! ### Memory that is read -/
/-- A value of one or more cells out of a list of cells. -/
def partA (agg : Bool) (off size : Nat) (cs : List AV) : AV := match agg with
  | true => .st ((cs.drop off).take size)
  | false => cs.getD off .any
theorem partA_eq {agg : Bool} {off size : Nat} {cs : List AV} (h : off + size ≤ cs.length) (hs : agg = false → size = 1) : partA agg off size cs = mkA agg ((cs.drop off).take size) := by
  cases agg with
  | true => rfl
  | false =>
    have := hs rfl
    subst this
    have hlt : off < cs.length := by omega
    have e : (cs.drop off).take 1 = [cs[off]] := by rw [List.drop_eq_getElem_cons hlt]; rfl
    rw [e]
    simp [partA, mkA, List.getD_eq_getElem?_getD, hlt]
def loadA (i : TI) (x : AV) (own : Own) : Option (Prop × AV) :=
  match x with
  | .ref d => some (fitA i d, d)
  | .raw (.pointer (some ⟨k, off, none⟩)) => match own k with
    | some o => some (off + i.size ≤ o.cs.length ∧ (i.k.agg = false → i.size = 1), partA i.k.agg off i.size o.cs)
    | none => none
  | _ => none

theorem OwnAt.cells {w : World} {F : Frz} {k : Nat} {o : OB} (h : OwnAt w F k o) (off n : Nat) (hn : off + n ≤ o.cs.length) :
    ∃ xs : List Value, xs.length = n ∧ (∀ j v, xs[j]? = some v → w.cell? ⟨k, off + j, none⟩ = some v) ∧ Reps w F ((o.cs.drop off).take n) xs ∧ ∀ y ∈ xs, y.oneCell' = true := by
  obtain ⟨arr, h1, h2, h3, h4, h5, h6, h7⟩ := h
  refine ⟨((arr.toList.take o.cs.length).drop off).take n, ?_, fun j v hj => ?_, (h4.drop off).take n, fun y hy => h5 y (List.mem_of_mem_drop (List.mem_of_mem_take hy))⟩
  · simp; omega
  · rw [List.getElem?_take] at hj
    split at hj
    · rw [List.getElem?_drop, List.getElem?_take] at hj
      split at hj
      · simp only [World.cell?, h1]
        simpa using hj
      · cases hj
    · cases hj

theorem vs_load {P : Program} {o : Oper} {ρ : Operand → AV} {own : Own} {T : Nat} {x : Operand} {i : TI} {c : Prop} {d : AV} (h : o.op = .load T x) (hi : ti P T = some i) (hd : loadA i (ρ x) own = some (c, d)) (hc : c) : VSem P o ρ own d := by
  refine VSem.of_run fun w F ev hf ho hr => ?_
  have h1 := hr x (by simp [h, Op.operands])
  generalize ρ x = dx at *
  unfold loadA at hd
  split at hd
  · rename_i d0
    injection hd with hd; injection hd with hd1 hd2; subst hd1; subst hd2
    simp only [Rep] at h1
    obtain ⟨k, off, y, e, hy, hh⟩ := h1
    obtain ⟨g1, g2, g3, g4, g5, g6⟩ := hy.cells hc
    refine ⟨y, ?_, hy⟩
    have hs : i.k.agg = false → i.size = 1 := fun ha => by have := g6 ha; rw [this] at g1; simpa using g1.symm
    have := run_loadVar (w := w) hi (k := k) (off := off) (xs := y.cells.toList) (by simpa using g1) hs (fun j v hj => (hh j v hj).2)
    simp only [execOp, h, e, Instr.loadAt, Instr.sureAddr, Sem.run_bind, Sem.run_pure, Result.andThen_ok, this]
    cases ha : i.k.agg with
    | true => simp; exact (g5 ha).symm
    | false => simp [g6 ha]
  · rename_i k off
    split at hd
    · rename_i ob hob
      injection hd with hd; injection hd with hd1 hd2; subst hd1; subst hd2
      simp only [Rep] at h1
      obtain ⟨xs, g1, g2, g3, g4⟩ := (ho k ob hob).cells off i.size hc.1
      refine ⟨_, ?_, partA_eq hc.1 hc.2 ▸ Rep.of_cells g3 g4 (by simp; omega) hc.2⟩
      have := run_loadVar (w := w) hi (k := k) (off := off) (xs := xs) g1 hc.2 g2
      simp only [execOp, h, h1.1, Instr.loadAt, Instr.sureAddr, Sem.run_bind, Sem.run_pure, Result.andThen_ok, this]
    · cases hd
  · cases hd

theorem vs_load_run {P : Program} {w : World} {F : Frz} {own : Own} {T k off : Nat} {i : TI} {c : Prop} {x d : AV} (hi : ti P T = some i) (hd : loadA i x own = some (c, d)) (hc : c) (ho : Owns w F own) (h1 : Rep w F x (.pointer (some ⟨k, off, none⟩))) :
    ∃ v, (loadVar T ⟨k, off, none⟩).run P w = .ok v w ∧ Rep w F d v := by
  unfold loadA at hd
  split at hd
  · rename_i d0
    injection hd with hd; injection hd with hd1 hd2; subst hd1; subst hd2
    simp only [Rep] at h1
    obtain ⟨k', off', y, e, hy, hh⟩ := h1
    injection e with e; injection e with e; injection e with e1 e2; subst e1; subst e2
    obtain ⟨g1, g2, g3, g4, g5, g6⟩ := hy.cells hc
    refine ⟨y, ?_, hy⟩
    have hs : i.k.agg = false → i.size = 1 := fun ha => by have := g6 ha; rw [this] at g1; simpa using g1.symm
    have := run_loadVar (w := w) hi (k := k) (off := off) (xs := y.cells.toList) (by simpa using g1) hs (fun j v hj => (hh j v hj).2)
    rw [this]
    cases ha : i.k.agg with
    | true => simp; exact (g5 ha).symm
    | false => simp [g6 ha]
  · rename_i k' off'
    split at hd
    · rename_i ob hob
      injection hd with hd; injection hd with hd1 hd2; subst hd1; subst hd2
      simp only [Rep] at h1
      have e := h1.1
      injection e with e; injection e with e; injection e with e1 e2; subst e1; subst e2
      obtain ⟨xs, g1, g2, g3, g4⟩ := (ho k ob hob).cells off i.size hc.1
      exact ⟨_, run_loadVar (w := w) hi (k := k) (off := off) (xs := xs) g1 hc.2 g2, partA_eq hc.1 hc.2 ▸ Rep.of_cells g3 g4 (by simp; omega) hc.2⟩
    · cases hd
  · cases hd

def nilA (x : AV) : Option AV :=
  match x with
  | .ref d => some (.ref d)
  | .raw (.pointer (some a)) => some (.raw (.pointer (some a)))
  | .clo (.func f) a b => some (.clo (.func f) a b)
  | .raw (.func (.func f) a b) => some (.raw (.func (.func f) a b))
  | _ => none
theorem vs_nil {P : Program} {o : Oper} {ρ : Operand → AV} {own : Own} {x : Operand} {d : AV} (h : o.op = .nilCheck x) (hd : nilA (ρ x) = some d) : VSem P o ρ own d := by
  refine VSem.of_run fun w F ev hf ho hr => ⟨ev x, ?_, ?_⟩
  all_goals
    have h1 := hr x (by simp [h, Op.operands])
    generalize ρ x = dx at *
    unfold nilA at hd
    split at hd <;> first
      | (injection hd with hd; subst hd)
      | cases hd
  · simp only [Rep] at h1; obtain ⟨k, off, y, e, _⟩ := h1; simp [execOp, h, e]
  · simp only [Rep] at h1; simp [execOp, h, h1.1]
  · simp only [Rep] at h1; obtain ⟨xs, ys, e, _⟩ := h1; simp [execOp, h, e]
  · simp only [Rep] at h1; simp [execOp, h, h1.1]
  all_goals exact h1

theorem take_one_drop {α : Type} {xs : List α} {g : Nat} (h : g < xs.length) : (xs.drop g).take 1 = [xs[g]] := by
  rw [List.drop_eq_getElem_cons h]; rfl

/-! ### Fields -/
structure FI where
  off : Nat
  size : Nat
  agg : Bool
def fi (P : Program) (S f : Nat) : Option FI :=
  match P.underlying S with
  | some (.struct fs) => match fs[f]? with
    | some g => match ti P g.type with
      | some i => some ⟨g.offset, i.size, i.k.agg⟩
      | none => none
    | none => none
  | _ => none
theorem fi_spec {P : Program} {S f : Nat} {q : FI} (h : fi P S f = some q) : ∃ fs g i, P.underlying S = some (.struct fs) ∧ fs[f]? = some g ∧ ti P g.type = some i ∧ q = ⟨g.offset, i.size, i.k.agg⟩ := by
  unfold fi at h
  split at h
  · rename_i fs h1
    split at h
    · rename_i g h2
      split at h
      · rename_i i h3
        injection h with h
        exact ⟨fs, g, i, h1, h2, h3, h.symm⟩
      · cases h
    · cases h
  · cases h

def subA (q : FI) (cs : List AV) : AV := partA q.agg q.off q.size cs
def subOk (q : FI) (cs : List AV) : Prop := q.off + q.size ≤ cs.length ∧ q.size ≠ 0 ∧ (q.agg = false → q.size = 1)

theorem Reps.sub {w : World} {F : Frz} {cs : List AV} {xs : List Value} {q : FI} (h : Reps w F cs xs) (h1 : ∀ y ∈ xs, y.oneCell' = true) (hq : subOk q cs) :
    Rep w F (subA q cs) (if q.agg then .agg ((xs.drop q.off).take q.size).toArray else ((xs.drop q.off).take q.size).headD undef) := by
  obtain ⟨h2, h3, h4⟩ := hq
  have := Rep.of_cells (i := ⟨if q.agg then .arr 0 0 else .other, q.size, 0, []⟩) ((h.drop q.off).take q.size) (fun y hy => h1 y (List.mem_of_mem_drop (List.mem_of_mem_take hy))) (by simp; omega)
    (fun ha => h4 (by cases hq : q.agg <;> simp [hq, TK.agg] at ha ⊢))
  unfold subA
  rw [partA_eq h2 h4]
  cases hq : q.agg <;> simpa [hq, TK.agg] using this

def fieldA (q : FI) (x : AV) : Option (Prop × AV) :=
  match x with
  | .st cs => some (subOk q cs, subA q cs)
  | _ => none
theorem vs_field {P : Program} {o : Oper} {ρ : Operand → AV} {own : Own} {S f : Nat} {x : Operand} {q : FI} {c : Prop} {d : AV} (h : o.op = .field S x f) (hq : fi P S f = some q) (hd : fieldA q (ρ x) = some (c, d)) (hc : c) : VSem P o ρ own d := by
  refine VSem.of_run fun w F ev hf ho hr => ?_
  have h1 := hr x (by simp [h, Op.operands])
  generalize ρ x = dx at *
  unfold fieldA at hd
  split at hd
  · rename_i cs
    injection hd with hd; injection hd with hd1 hd2; subst hd1; subst hd2
    simp only [Rep] at h1
    obtain ⟨xs, e, hx, h1x⟩ := h1
    refine ⟨_, ?_, hx.sub h1x hc⟩
    obtain ⟨fs, g, i, q1, q2, q3, rfl⟩ := fi_spec hq
    obtain ⟨info, td, z, e1, e2, e3, e4, e5, e6, e7⟩ := ti_spec q3
    obtain ⟨c1, c2, c3⟩ := hc
    have hl := hx.length
    simp only [execOp, h, Instr.field, Sem.run_bind, run_underlying q1, Result.andThen_ok, q2, e, asAgg, Sem.run_pure, part, run_isAgg e2, ← e3]
    cases ha : i.k.agg with
    | true =>
      simp only [if_true, Sem.run_bind, run_sizeOf e1, Result.andThen_ok, Sem.run_pure, e4, List.extract_toArray]
      congr 4
      rw [List.extract_eq_take_drop]; congr 1; omega
    | false =>
      have h1' : i.size = 1 := c3 ha
      have hlt : g.offset < xs.length := by simp only at c1; omega
      simp [hlt, h1', take_one_drop]
  · cases hd

def faddrA (q : FI) (x : AV) : Option (Prop × AV) :=
  match x with
  | .ref (.st cs) => some (subOk q cs, .ref (subA q cs))
  | .raw (.pointer (some ⟨k, off, none⟩)) => some (q.size ≠ 0, .raw (.pointer (some ⟨k, off + q.off, none⟩)))
  | _ => none
theorem Holds.sub {w : World} {F : Frz} {k off : Nat} {xs : List Value} (h : Holds w F k off xs) (a n : Nat) : Holds w F k (off + a) ((xs.drop a).take n) := by
  intro i v hi
  rw [List.getElem?_take] at hi
  split at hi
  · rw [List.getElem?_drop] at hi
    have := h (a + i) v hi
    rwa [← Nat.add_assoc] at this
  · cases hi
theorem run_fieldPlace {P : Program} {w : World} {g : Field} {i : TI} (hi : ti P g.type = some i) (hs : i.size ≠ 0) (a : Addr) : (fieldPlace a g).run P w = .ok (a.add g.offset) w := by
  obtain ⟨info, td, z, e1, e2, e3, e4, e5, e6, e7⟩ := ti_spec hi
  simp only [fieldPlace, Sem.run_bind, run_sizeOf e1, Result.andThen_ok, e4]
  rw [if_neg hs]
  rfl
theorem vs_faddr {P : Program} {o : Oper} {ρ : Operand → AV} {own : Own} {S f : Nat} {x : Operand} {q : FI} {c : Prop} {d : AV} (h : o.op = .fieldAddr S x f) (hq : fi P S f = some q) (hd : faddrA q (ρ x) = some (c, d)) (hc : c) : VSem P o ρ own d := by
  obtain ⟨fs, g, i, q1, q2, q3, rfl⟩ := fi_spec hq
  refine VSem.of_run fun w F ev hf ho hr => ?_
  have h1 := hr x (by simp [h, Op.operands])
  generalize ρ x = dx at *
  unfold faddrA at hd
  split at hd
  · rename_i cs
    injection hd with hd; injection hd with hd1 hd2; subst hd1; subst hd2
    simp only [Rep] at h1
    obtain ⟨k, off, y, e, ⟨xs, rfl, hx, h1x⟩, hh⟩ := h1
    refine ⟨.pointer (some ⟨k, off + g.offset, none⟩), ?_, ?_⟩
    · simp only [execOp, h, Instr.fieldAt, Sem.run_bind, run_underlying q1, Result.andThen_ok, q2, e, Instr.sureAddr, Sem.run_pure, run_fieldPlace q3 hc.2.1, Addr.add_plain]
    · simp only [Rep]
      refine ⟨k, off + g.offset, _, rfl, hx.sub h1x hc, ?_⟩
      have hs := hh.sub g.offset i.size
      simp only [Value.cells] at hs
      cases ha : i.k.agg with
      | true => simpa [Value.cells] using hs
      | false =>
        have h1' : i.size = 1 := hc.2.2 ha
        have hl := hx.length
        have hlt : g.offset < xs.length := by have := hc.1; simp only at this; omega
        simp only [Bool.false_eq_true, if_false]
        have e1 : (xs.drop g.offset).take i.size = [xs[g.offset]] := by rw [h1', take_one_drop hlt]
        rw [e1] at hs ⊢
        simp only [List.headD_cons]
        rw [cells_one (h1x _ (List.getElem_mem hlt))]
        simpa using hs
  · rename_i k off
    injection hd with hd; injection hd with hd1 hd2; subst hd1; subst hd2
    simp only [Rep] at h1
    refine ⟨.pointer (some ⟨k, off + g.offset, none⟩), ?_, by simp [Rep, Value.oneCell']⟩
    simp only [execOp, h, Instr.fieldAt, Sem.run_bind, run_underlying q1, Result.andThen_ok, q2, h1.1, Instr.sureAddr, Sem.run_pure, run_fieldPlace q3 hc, Addr.add_plain]
  · cases hd

/-! ### Elements -/
def iaddrA (k : TK) (es : Nat) (x i : AV) : Option (Prop × AV) :=
  match k, x, i with
  | .slc _, .lst wd l, .raw (.int _ n) => some (wd = es ∧ 0 ≤ n ∧ n < l.length, .ref (l.getD n.toNat .any))
  | .slc _, .raw (.slice (some ⟨b, off, none⟩) len _), .raw (.int _ n) => some (0 ≤ n ∧ n < len, .raw (.pointer (some ⟨b, off + n.toNat * es, none⟩)))
  | .arr len _, .raw (.pointer (some ⟨b, off, none⟩)), .raw (.int _ n) => some (0 ≤ n ∧ n < len, .raw (.pointer (some ⟨b, off + n.toNat * es, none⟩)))
  | _, _, _ => none
def elemOfK : TK → Nat
  | .slc e | .arr _ e => e
  | _ => 0
theorem vs_iaddr {P : Program} {o : Oper} {ρ : Operand → AV} {own : Own} {T : Nat} {x ix : Operand} {i e : TI} {c : Prop} {d : AV} (h : o.op = .indexAddr T x ix) (hi : ti P T = some i) (he : ti P (elemOfK i.k) = some e)
    (hd : iaddrA i.k e.size (ρ x) (ρ ix) = some (c, d)) (hc : c) : VSem P o ρ own d := by
  obtain ⟨info, td, z, e1, e2, e3, e4, e5, e6, e7⟩ := ti_spec hi
  obtain ⟨info', td', z', f1, f2, f3, f4, f5, f6, f7⟩ := ti_spec he
  refine VSem.of_run fun w F ev hf ho hr => ?_
  have h1 := hr x (by simp [h, Op.operands])
  have h2 := hr ix (by simp [h, Op.operands])
  generalize ρ x = dx at *
  generalize ρ ix = dix at *
  unfold iaddrA at hd
  split at hd
  · rename_i k0 el wd l k n hk
    injection hd with hd; injection hd with hd1 hd2; subst hd1; subst hd2
    simp only [Rep] at h1 h2
    obtain ⟨A, cp, ex, g1, g2, g3⟩ := h1
    obtain ⟨hw, hn0, hn1⟩ := hc
    have hne : l ≠ [] := by intro hl; subst hl; simp at hn1; omega
    obtain ⟨k1, off, rfl, hL⟩ := g3 hne
    have hlt : n.toNat < l.length := by omega
    obtain ⟨y, y1, y2, y3⟩ := hL.get n.toNat l[n.toNat] (by simp [hlt])
    refine ⟨.pointer (some ⟨k1, off + n.toNat * wd, none⟩), ?_, ?_⟩
    · rw [e3] at hk f1
      cases td <;> simp only [TK.of] at hk <;> (try cases hk)
      simp only [elemOfK, TK.of] at f1
      simp [execOp, h, Instr.indexAt, h2.1, asIntOf, run_underlying e2, ex, hn0, hn1, run_sizeOf f1, f4, Addr.add_plain, hw]
    · simp only [Rep]
      refine ⟨k1, _, y, rfl, ?_, y3⟩
      rw [List.getD_eq_getElem?_getD, List.getElem?_eq_getElem hlt]; exact y1
  · rename_i k0 el b off len cp k n hk
    injection hd with hd; injection hd with hd1 hd2; subst hd1; subst hd2
    simp only [Rep] at h1 h2
    refine ⟨_, ?_, by simp [Rep, Value.oneCell']; rfl⟩
    rw [e3] at hk f1
    cases td <;> simp only [TK.of] at hk <;> (try cases hk)
    simp only [elemOfK, TK.of] at f1
    simp [execOp, h, Instr.indexAt, h2.1, asIntOf, run_underlying e2, h1.1, hc.1, hc.2, run_sizeOf f1, f4, Addr.add_plain]
  · rename_i k0 len el b off k n hk
    injection hd with hd; injection hd with hd1 hd2; subst hd1; subst hd2
    simp only [Rep] at h1 h2
    refine ⟨_, ?_, by simp [Rep, Value.oneCell']; rfl⟩
    rw [e3] at hk f1
    cases td <;> simp only [TK.of] at hk <;> (try cases hk)
    simp only [elemOfK, TK.of] at f1
    simp [execOp, h, Instr.indexAt, h2.1, asIntOf, run_underlying e2, h1.1, hc.1, hc.2, run_sizeOf f1, f4, Addr.add_plain, Instr.sureAddr]
  · cases hd

def indexA (k : TK) (x i : AV) : Option (Prop × AV) :=
  match k, x, i with
  | .str, .raw (.string s), .raw (.int _ n) => some (0 ≤ n ∧ n < s.size, .raw (.int .u8 (s.data.getD n.toNat 0).toNat))
  | _, _, _ => none
theorem vs_index {P : Program} {o : Oper} {ρ : Operand → AV} {own : Own} {T : Nat} {x ix : Operand} {i : TI} {c : Prop} {d : AV} (h : o.op = .index T x ix) (hi : ti P T = some i)
    (hd : indexA i.k (ρ x) (ρ ix) = some (c, d)) (hc : c) : VSem P o ρ own d := by
  obtain ⟨info, td, z, e1, e2, e3, e4, e5, e6, e7⟩ := ti_spec hi
  refine VSem.of_run fun w F ev hf ho hr => ?_
  have h1 := hr x (by simp [h, Op.operands])
  have h2 := hr ix (by simp [h, Op.operands])
  generalize ρ x = dx at *
  generalize ρ ix = dix at *
  unfold indexA at hd
  split at hd
  · rename_i s k n hk
    injection hd with hd; injection hd with hd1 hd2; subst hd1; subst hd2
    simp only [Rep] at h1 h2
    refine ⟨_, ?_, by simp [Rep, Value.oneCell']; rfl⟩
    rw [e3] at hk
    cases td <;> simp only [TK.of] at hk <;> (try cases hk)
    have hlt : n.toNat < s.size := by omega
    have hget : s[n.toNat]? = some (s.data.getD n.toNat 0) := by
      rw [getElem?_pos s n.toNat hlt]
      have : n.toNat < s.data.size := hlt
      congr 1
      simp only [Array.getD, this, dif_pos]
      rfl
    simp [execOp, h, Instr.index, h2.1, asIntOf, run_underlying e2, h1.1, hc.1, hget]
  · cases hd
end Go.Proofs.Ytenfgknhongaaaa.Hl
