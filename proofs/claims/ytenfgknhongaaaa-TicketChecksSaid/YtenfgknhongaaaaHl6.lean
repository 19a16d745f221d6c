/- Boxes and slices that nobody writes, function values, len, min, max; and the one function that says what an operation comes to. No condition. -/
import Derived.Test.YtenfgknhongaaaaHl5
set_option linter.unusedVariables false
set_option linter.unusedSimpArgs false

namespace Go.Proofs.Ytenfgknhongaaaa.Hl
open Go

theorem run_newVar (P : Program) (w : World) (T : Nat) (v : Value) : (newVar T v).run P w = .ok ⟨w.heap.size, 0, none⟩ { w with heap := w.heap.push (.cells v.cells T) } := by
  simp [newVar, newRow]

theorem vs_box {P : Program} {o : Oper} {ρ : Operand → AV} {own : Own} {T : Nat} {x : Operand} (h : o.op = .box T x) : VSem P o ρ own (.ref (ρ x)) := by
  intro w F ev hf ho hr
  have h1 := hr x (by simp [h, Op.operands])
  have hrun : (execOp ev o).run P w = .ok (.value (.pointer (some ⟨w.heap.size, 0, none⟩))) { w with heap := w.heap.push (.cells (ev x).cells T) } := by
    simp only [execOp, h, Instr.box, Sem.run_bind, run_newVar, Result.andThen_ok, Sem.run_pure]
  unfold OpRes
  rw [hrun]
  refine ⟨_, Ext.push hf _ (ev x).cells.size, ?_⟩
  simp only [Rep]
  exact ⟨_, _, _, rfl, Rep.mono (Ext.push hf _ _).kept _ _ h1, Holds.new w F _ _ _ 0 _ _ (by simp) fun i v hi => by simpa using hi⟩

theorem Reps.map_ev {w : World} {F : Frz} {ρ : Operand → AV} {ev : Operand → Value} : ∀ {l : List Operand}, (∀ x ∈ l, Rep w F (ρ x) (ev x)) → Reps w F (l.map ρ) (l.map ev)
  | [], _ => by simp [Reps]
  | x :: l, h => by
    simp only [List.map_cons, Reps]
    exact ⟨_, _, rfl, h x (by simp), Reps.map_ev fun y hy => h y (by simp [hy])⟩
theorem vs_func {P : Program} {o : Oper} {ρ : Operand → AV} {own : Own} {fn : Fn} {a b : Array Operand} (h : o.op = .makeFunc fn a b) : VSem P o ρ own (.clo fn (a.toList.map ρ) (b.toList.map ρ)) := by
  refine VSem.of_run fun w F ev hf ho hr => ⟨.func fn (a.map ev) (b.map ev), by simp [execOp, h, Instr.makeFunc], ?_⟩
  simp only [Rep]
  refine ⟨a.toList.map ev, b.toList.map ev, ?_, Reps.map_ev fun x hx => hr x (by simp only [h, Op.operands]; simp at hx ⊢; exact .inl hx), Reps.map_ev fun x hx => hr x (by simp only [h, Op.operands]; simp at hx ⊢; exact .inr hx)⟩
  congr 1 <;> apply Array.ext' <;> simp

/-! ### Slices out of their elements -/
theorem Holds.append {w : World} {F : Frz} {k off : Nat} {a b : List Value} (h : Holds w F k off (a ++ b)) : Holds w F k off a ∧ Holds w F k (off + a.length) b :=
  ⟨fun i v hi => h i v (by rw [List.getElem?_append_left]; exact hi; rcases Nat.lt_or_ge i a.length with h' | h'; exact h'; rw [List.getElem?_eq_none h'] at hi; cases hi),
   fun i v hi => by have := h (a.length + i) v (by rw [List.getElem?_append_right (by omega)]; simpa using hi); rwa [← Nat.add_assoc] at this⟩
theorem RepL.flat {w : World} {F : Frz} {k wd : Nat} : ∀ {ds : List AV} {vs : List Value} {off : Nat}, Reps w F ds vs → (∀ v ∈ vs, v.cells.size = wd) → Holds w F k off (vs.flatMap fun v => v.cells.toList) → RepL w F k off wd ds
  | [], vs, off, h, _, _ => by simp [RepL]
  | d :: ds, vs, off, h, hs, hh => by
    simp only [Reps] at h
    obtain ⟨x, xs, rfl, h1, h2⟩ := h
    simp only [List.flatMap_cons] at hh
    obtain ⟨g1, g2⟩ := hh.append
    have hx := hs x (by simp)
    simp only [RepL]
    refine ⟨⟨x, h1, hx, g1⟩, RepL.flat h2 (fun v hv => hs v (by simp [hv])) ?_⟩
    have : x.cells.toList.length = wd := by simpa using hx
    rwa [this] at g2

theorem fill_seq (size : Nat) : ∀ (vs : List (Nat × Value)) (s : Nat) (cells : Array Value), (∀ (j : Nat) (p : Nat × Value), vs[j]? = some p → p.1 = s + j ∧ p.2.cells.size = size) → cells.size = (s + vs.length) * size →
    ∃ out : Array Value, Instr.fill (fun i => some (i * size, size)) cells vs = some out ∧ out.toList = cells.toList.take (s * size) ++ vs.flatMap fun p => p.2.cells.toList
  | [], s, cells, h, hs => ⟨cells, rfl, by simp at hs ⊢; rw [List.take_of_length_le (by simp [hs])]⟩
  | (i, v) :: vs, s, cells, h, hs => by
    obtain ⟨e1, e2⟩ := h 0 (i, v) rfl
    simp only [Nat.add_zero] at e1 e2
    subst e1
    have hs' : cells.size = i * size + size + vs.length * size := by rw [hs, List.length_cons, show i + (vs.length + 1) = i + 1 + vs.length by omega, Nat.add_mul, Nat.add_mul]; omega
    have hstep := fill_step (cells := cells) (off := i * size) (new := v.cells) (by rw [e2]; omega)
    have hsz : ((cells.toList.take (i * size) ++ v.cells.toList ++ cells.toList.drop (i * size + v.cells.size)).toArray).size = (i + 1 + vs.length) * size := by
      simp [e2]
      rw [Nat.add_mul, Nat.add_mul]
      omega
    obtain ⟨out, o1, o2⟩ := fill_seq size vs (i + 1) (cells.toList.take (i * size) ++ v.cells.toList ++ cells.toList.drop (i * size + v.cells.size)).toArray
      (fun j p hj => by have := h (j + 1) p hj; exact ⟨by omega, this.2⟩) hsz
    refine ⟨out, ?_, ?_⟩
    · simp only [Instr.fill]
      rw [if_neg (by simp [e2]; omega)]
      rw [← hstep] at o1
      exact o1
    · rw [o2]
      simp only [List.flatMap_cons]
      have hl : (cells.toList.take (i * size) ++ v.cells.toList).length = (i + 1) * size := by simp [e2]; rw [Nat.add_mul]; omega
      rw [List.take_append_of_le_length (by rw [hl]; exact Nat.le_refl _), List.take_of_length_le (by rw [hl]; exact Nat.le_refl _), List.append_assoc]

/-- All parts there, in order, and of the element's type. -/
def partsOk (e : TI) (n : Nat) (s : Nat) : List (Nat × AV) → Prop
  | [] => s = n
  | (i, d) :: rest => i = s ∧ fitA e d ∧ partsOk e n (s + 1) rest
theorem partsOk_get {e : TI} {n : Nat} : ∀ {ps : List (Nat × AV)} {s : Nat}, partsOk e n s ps → s + ps.length = n ∧ ∀ (j : Nat) (p : Nat × AV), ps[j]? = some p → p.1 = s + j ∧ fitA e p.2
  | [], s, h => ⟨by simpa [partsOk] using h, by simp⟩
  | (i, d) :: rest, s, h => by
    simp only [partsOk] at h
    obtain ⟨rfl, h1, h2⟩ := h
    obtain ⟨g1, g2⟩ := partsOk_get h2
    refine ⟨by simp; omega, fun j p hj => ?_⟩
    cases j with
    | zero => simp at hj; subst hj; exact ⟨rfl, h1⟩
    | succ j => simp at hj; have := g2 j p hj; exact ⟨by omega, this.2⟩

theorem run_buildSlice {P : Program} {w : World} {F : Frz} {T n : Nat} {i e : TI} {parts : List (Nat × AV)} {vs : Array (Nat × Value)} (hi : ti P T = some i) {el : Nat} (hk : i.k = .slc el) (he : ti P el = some e) (hp : partsOk e n 0 parts) (hn : n * e.size ≤ 16777216)
    (hl : parts.length = vs.size) (hr : ∀ (j : Nat) (p : Nat × AV) (q : Nat × Value), parts[j]? = some p → vs.toList[j]? = some q → p.1 = q.1 ∧ Rep w F p.2 q.2) :
    ∃ (el' : Nat) (out : Array Value), (Instr.buildSlice T n vs).run P w = .ok (.slice (some ⟨w.heap.size, 0, none⟩) n n) { w with heap := w.heap.push (.cells out el') } ∧
      out.toList = (vs.toList.map (·.2)).flatMap (fun v => v.cells.toList) ∧ el' = el := by
  obtain ⟨info, td, z, e1, e2, e3, e4, e5, e6, e7⟩ := ti_spec hi
  obtain ⟨info', td', z', f1, f2, f3, f4, f5, f6, f7⟩ := ti_spec he
  rw [e3] at hk
  cases td <;> simp only [TK.of] at hk <;> first | cases hk | skip
  obtain ⟨g1, g2⟩ := partsOk_get hp
  have hv : ∀ (j : Nat) (q : Nat × Value), vs.toList[j]? = some q → q.1 = 0 + j ∧ q.2.cells.size = e.size := fun j q hq => by
    have hlt : j < parts.length := by
      rw [hl]
      rcases Nat.lt_or_ge j vs.size with h' | h'
      · exact h'
      · rw [List.getElem?_eq_none (by simpa using h')] at hq; cases hq
    obtain ⟨k1, k2⟩ := hr j _ q (List.getElem?_eq_getElem hlt) hq
    obtain ⟨m1, m2⟩ := g2 j _ (List.getElem?_eq_getElem hlt)
    exact ⟨k1 ▸ m1, (k2.cells m2).1⟩
  have hvn : vs.size = n := by rw [← hl]; omega
  obtain ⟨zr, hz⟩ : ∃ zr : Array Value, zr = if n * e.size = 0 then #[] else z'.cells := ⟨_, rfl⟩
  obtain ⟨out, o1, o2⟩ := fill_seq e.size vs.toList 0 ((Array.range (n * e.size)).map (zr[· % zr.size]!)) hv (by simp [hvn])
  refine ⟨_, out, ?_, ?_, rfl⟩
  · simp only [Instr.buildSlice, Sem.run_bind, run_underlying e2, Result.andThen_ok, run_sizeOf f1, f4]
    rw [if_neg (by omega)]
    simp only [Sem.run_ite, Sem.run_bind, Sem.run_pure, run_zeroValue f1 f6, Result.andThen_ok]
    by_cases h0 : n * e.size = 0
    · rw [if_pos h0] at hz
      subst hz
      simp only [h0, if_true, Result.andThen_ok]
      simp only [h0] at o1
      rw [o1]
      simp [newRow]
    · rw [if_neg h0] at hz
      subst hz
      simp only [h0, if_false, Result.andThen_ok]
      rw [o1]
      simp [newRow]
  · rw [o2]
    simp [List.flatMap_map]

def bsA (P : Program) (T n : Nat) (parts : List (Nat × AV)) : Option (Prop × AV) :=
  match ti P T with
  | some ⟨.slc el, _, _, _⟩ => match ti P el with
    | some e => some (partsOk e n 0 parts ∧ n * e.size ≤ 16777216 ∧ n ≤ 9223372036854775807, .lst e.size (parts.map (·.2)))
    | none => none
  | _ => none

theorem Reps.of_get {w : World} {F : Frz} : ∀ {ds : List AV} {vs : List Value}, ds.length = vs.length → (∀ (j : Nat) d v, ds[j]? = some d → vs[j]? = some v → Rep w F d v) → Reps w F ds vs
  | [], vs, hl, _ => by have : vs = [] := List.eq_nil_of_length_eq_zero hl.symm; simp [Reps, this]
  | d :: ds, [], hl, _ => by simp at hl
  | d :: ds, v :: vs, hl, h => by
    simp only [Reps]
    exact ⟨v, vs, rfl, h 0 d v rfl rfl, Reps.of_get (by simpa using hl) fun j d' v' hj hj' => h (j + 1) d' v' hj hj'⟩

theorem vs_bslice {P : Program} {o : Oper} {ρ : Operand → AV} {own : Own} {T n : Nat} {parts : Array (Nat × Operand)} {c : Prop} {d : AV} (h : o.op = .buildSlice T n parts)
    (hd : bsA P T n (parts.toList.map fun p => (p.1, ρ p.2)) = some (c, d)) (hc : c) : VSem P o ρ own d := by
  unfold bsA at hd
  split at hd
  · rename_i el sz by_ zs hi
    split at hd
    · rename_i e he
      injection hd with hd; injection hd with hd1 hd2; subst hd1; subst hd2
      intro w F ev hf ho hr
      have hrr : ∀ (j : Nat) (p : Nat × AV) (q : Nat × Value), (parts.toList.map fun p => (p.1, ρ p.2))[j]? = some p → (parts.map fun x => (x.1, ev x.2)).toList[j]? = some q → p.1 = q.1 ∧ Rep w F p.2 q.2 := by
        intro j p q hj hj'
        rw [List.getElem?_map] at hj
        simp only [Array.toList_map, List.getElem?_map] at hj'
        cases hp : parts.toList[j]? with
        | none => rw [hp] at hj; cases hj
        | some x =>
          rw [hp] at hj hj'
          injection hj with hj; injection hj' with hj'
          subst hj; subst hj'
          exact ⟨rfl, hr x.2 (by simp only [h, Op.operands]; simp only [List.mem_toArray, List.mem_map]; exact ⟨x, List.mem_of_getElem? hp, rfl⟩)⟩
      obtain ⟨el', out, r1, r2, _⟩ := run_buildSlice (w := w) (F := F) (vs := parts.map fun x => (x.1, ev x.2)) hi rfl he hc.1 hc.2.1 (by simp) hrr
      have hrun : (execOp ev o).run P w = .ok (.value (.slice (some ⟨w.heap.size, 0, none⟩) n n)) { w with heap := w.heap.push (.cells out el') } := by
        simp only [execOp, h]
        rw [Sem.run_bind, r1]
        rfl
      obtain ⟨g1, g2⟩ := partsOk_get hc.1
      have hlen : parts.size = n := by simp at g1; exact g1
      have hmax : n ≤ 9223372036854775807 := hc.2.2
      unfold OpRes
      rw [hrun]
      refine ⟨_, Ext.push hf _ out.size, ?_⟩
      simp only [Rep]
      refine ⟨_, n, by simp [hlen], by simp [hlen], by simp [hlen]; exact hmax, fun _ => ⟨w.heap.size, 0, rfl, ?_⟩⟩
      refine RepL.flat (vs := (parts.map fun x => (x.1, ev x.2)).toList.map (·.2)) ?_ ?_ ?_
      · refine Reps.of_get (by simp) fun j d v hj hj' => ?_
        simp only [List.getElem?_map, Option.map_eq_some_iff] at hj hj'
        obtain ⟨p, hp, rfl⟩ := hj
        obtain ⟨q, hq, rfl⟩ := hj'
        exact Rep.mono (Ext.push hf _ _).kept _ _ (hrr j p q (by simpa [List.getElem?_map] using hp) hq).2
      · intro v hv
        simp only [List.mem_map] at hv
        obtain ⟨q, hq, rfl⟩ := hv
        obtain ⟨j, hj, hjq⟩ := List.getElem_of_mem hq
        have hj2 : j < (parts.toList.map fun p => (p.1, ρ p.2)).length := by simpa using hj
        have := hrr j _ q (List.getElem?_eq_getElem hj2) (by rw [List.getElem?_eq_getElem hj, hjq])
        exact (this.2.cells (g2 j _ (List.getElem?_eq_getElem hj2)).2).1
      · refine Holds.new w F out _ _ 0 _ _ ?_ fun i v hi => ?_
        · rw [← r2]; simp
        · rw [← r2] at hi; simpa using hi
    · cases hd
  · cases hd

/-! ### len, min, max -/
def lenA (k : TK) (x : AV) : Option AV :=
  match k, x with
  | .str, .raw (.string s) => some (.raw (.int .i64 s.size))
  | .slc _, .raw (.slice _ n _) => some (.raw (.int .i64 n))
  | .slc _, .lst _ l => some (.raw (.int .i64 l.length))
  | .slc _, .emp => some (.raw (.int .i64 0))
  | _, _ => none
theorem vs_len {P : Program} {o : Oper} {ρ : Operand → AV} {own : Own} {x : Operand} {T : Nat} {i : TI} {d : AV} (h : o.op = .call ⟨.builtin .len, #[x], #[T]⟩) (hi : ti P T = some i) (hd : lenA i.k (ρ x) = some d) : VSem P o ρ own d := by
  obtain ⟨info, td, z, e1, e2, e3, e4, e5, e6, e7⟩ := ti_spec hi
  refine VSem.of_run fun w F ev hf ho hr => ?_
  have h1 := hr x (by simp [h, Op.operands, Call.operands])
  have key : ∀ v, (Builtin.len_ #[T] o.type #[ev x]).run P w = .ok v w → (execOp ev o).run P w = .ok (.value v) w := fun v hv => by
    simp only [execOp, h, resolve, Sem.run_bind, Sem.run_pure, Result.andThen_ok, invoke, builtin]
    have : (#[x].map ev) = #[ev x] := by simp
    rw [this, hv]
    rfl
  generalize ρ x = dx at *
  rw [e3] at hd
  unfold lenA at hd
  split at hd
  · rename_i s hk
    injection hd with hd; subst hd
    have := TK.of_str hk
    subst this
    simp only [Rep] at h1
    exact ⟨.int .i64 s.size, key _ (by simp [Builtin.len_, run_underlying e2, h1.1, goInt]), by simp [Rep, Value.oneCell']⟩
  · rename_i el A n c hk
    injection hd with hd; subst hd
    obtain ⟨el', rfl⟩ := TK.of_slc hk
    simp only [Rep] at h1
    exact ⟨.int .i64 n, key _ (by simp [Builtin.len_, run_underlying e2, h1.1, goInt]), by simp [Rep, Value.oneCell']⟩
  · rename_i el wd l hk
    injection hd with hd; subst hd
    obtain ⟨el', rfl⟩ := TK.of_slc hk
    simp only [Rep] at h1
    obtain ⟨A, c, e, _⟩ := h1
    exact ⟨.int .i64 l.length, key _ (by simp [Builtin.len_, run_underlying e2, e, goInt]), by simp [Rep, Value.oneCell']⟩
  · rename_i el hk
    injection hd with hd; subst hd
    obtain ⟨el', rfl⟩ := TK.of_slc hk
    simp only [Rep] at h1
    obtain ⟨A, e⟩ := h1
    exact ⟨.int .i64 0, key _ (by simp [Builtin.len_, run_underlying e2, e, goInt]), by simp [Rep, Value.oneCell']⟩
  · cases hd

def mmA (mx : Bool) (x y : AV) : Option AV :=
  match x, y with
  | .raw (.int k a), .raw (.int k' b) => some (.raw (.int k (match mx with | true => max a b | false => min a b)))
  | _, _ => none
theorem vs_min {P : Program} {o : Oper} {ρ : Operand → AV} {own : Own} {x y : Operand} {ts : Array Nat} {d : AV} (h : o.op = .call ⟨.builtin .min, #[x, y], ts⟩) (hd : mmA false (ρ x) (ρ y) = some d) : VSem P o ρ own d := by
  refine VSem.of_run fun w F ev hf ho hr => ?_
  have h1 := hr x (by simp [h, Op.operands, Call.operands])
  have h2 := hr y (by simp [h, Op.operands, Call.operands])
  generalize ρ x = dx at *
  generalize ρ y = dy at *
  unfold mmA at hd
  split at hd
  · rename_i k a k' b
    injection hd with hd; subst hd
    simp only [Rep] at h1 h2
    refine ⟨_, ?_, by simp [Rep, Value.oneCell']; rfl⟩
    simp only [execOp, h, resolve, Sem.run_bind, Sem.run_pure, Result.andThen_ok, invoke, builtin, Builtin.min_]
    simp [h1.1, h2.1, Builtin.min2]
    rw [Int.min_def]
    split <;> split <;> omega
  · cases hd
theorem vs_max {P : Program} {o : Oper} {ρ : Operand → AV} {own : Own} {x y : Operand} {ts : Array Nat} {d : AV} (h : o.op = .call ⟨.builtin .max, #[x, y], ts⟩) (hd : mmA true (ρ x) (ρ y) = some d) : VSem P o ρ own d := by
  refine VSem.of_run fun w F ev hf ho hr => ?_
  have h1 := hr x (by simp [h, Op.operands, Call.operands])
  have h2 := hr y (by simp [h, Op.operands, Call.operands])
  generalize ρ x = dx at *
  generalize ρ y = dy at *
  unfold mmA at hd
  split at hd
  · rename_i k a k' b
    injection hd with hd; subst hd
    simp only [Rep] at h1 h2
    refine ⟨_, ?_, by simp [Rep, Value.oneCell']; rfl⟩
    simp only [execOp, h, resolve, Sem.run_bind, Sem.run_pure, Result.andThen_ok, invoke, builtin, Builtin.max_]
    simp [h1.1, h2.1, Builtin.max2]
    rw [Int.max_def]
    split <;> split <;> omega
  · cases hd
end Go.Proofs.Ytenfgknhongaaaa.Hl
