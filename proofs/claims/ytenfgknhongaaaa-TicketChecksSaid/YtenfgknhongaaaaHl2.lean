/- What an operation that writes nothing comes to: its value as a function of its operands' abstract values. No condition. -/
import Derived.Test.YtenfgknhongaaaaHl1
import Derived.Laws.Slices
set_option linter.unusedVariables false
set_option linter.unusedSimpArgs false

namespace Go.Proofs.Ytenfgknhongaaaa.Hl
open Go

/-- The world grows; what was there stays as it was; more may be frozen, but nothing that was there. -/
structure Ext (w : World) (F : Frz) (w' : World) (F' : Frz) : Prop where
  os : w'.os = w.os
  tape : w'.tape = w.tape
  output : w'.output = w.output
  size : w.heap.size ≤ w'.heap.size
  old : ∀ b, b < w.heap.size → w'.heap[b]? = w.heap[b]? ∧ ∀ i, F' b i → F b i
  kept : Kept w F w' F'
  wf : ∀ k i, F' k i → k < w'.heap.size

theorem Ext.refl {w : World} {F : Frz} (hf : ∀ k i, F k i → k < w.heap.size) : Ext w F w F :=
  ⟨rfl, rfl, rfl, Nat.le_refl _, fun _ _ => ⟨rfl, fun _ h => h⟩, Kept.refl _ _, hf⟩
theorem Ext.trans {w w1 w2 : World} {F F1 F2 : Frz} (h : Ext w F w1 F1) (h' : Ext w1 F1 w2 F2) : Ext w F w2 F2 where
  os := h'.os.trans h.os
  tape := h'.tape.trans h.tape
  output := h'.output.trans h.output
  size := Nat.le_trans h.size h'.size
  old b hb := by
    have h1 := h.old b hb
    have h2 := h'.old b (Nat.lt_of_lt_of_le hb h.size)
    exact ⟨h2.1.trans h1.1, fun i hi => h1.2 i (h2.2 i hi)⟩
  kept := h.kept.trans h'.kept
  wf := h'.wf
theorem Ext.ws {w w' : World} {F F' : Frz} {own : Own} (h : Ext w F w' F') (ho : ∀ k o, own k = some o → OwnAt w F k o) : WS ⟨w, F, own⟩ w' F' own where
  os := h.os
  tape := h.tape
  output := h.output
  size := h.size
  keep b hb hn := ⟨(h.old b hb).1, hn, (h.old b hb).2⟩
  kept := h.kept
  wf := h.wf
  owns k o hk := (ho k o hk).mono h.kept (h.old k (ho k o hk).lt).1 (h.old k (ho k o hk).lt).2
theorem Ext.of_ws {w w' : World} {F F' : Frz} {own' : Own} (h : WS ⟨w, F, noOwn⟩ w' F' own') : Ext w F w' F' where
  os := h.os
  tape := h.tape
  output := h.output
  size := h.size
  old b hb := ⟨(h.keep b hb rfl).1, (h.keep b hb rfl).2.2⟩
  kept := h.kept
  wf := h.wf
theorem Ext.drawn {w : World} {F : Frz} (hf : ∀ k i, F k i → k < w.heap.size) (n : Nat) : Ext w F { w with drawn := n } F :=
  ⟨rfl, rfl, rfl, Nat.le_refl _, fun _ _ => ⟨rfl, fun _ h => h⟩, fun _ _ h => ⟨h, rfl⟩, hf⟩

/-- A new block, frozen at once. -/
def FrzNew (F : Frz) (k n : Nat) : Frz := fun b i => F b i ∨ (b = k ∧ i < n)
theorem cell?_push_old (w : World) (o : Obj) (k i : Nat) (hk : k < w.heap.size) : ({ w with heap := w.heap.push o } : World).cell? ⟨k, i, none⟩ = w.cell? ⟨k, i, none⟩ := by
  have : (w.heap.push o)[k]? = w.heap[k]? := by rw [Array.getElem?_push]; simp [Nat.ne_of_lt hk]
  simp only [World.cell?, this]
theorem heap_push_old (h : Array Obj) (o : Obj) (k : Nat) (hk : k < h.size) : (h.push o)[k]? = h[k]? := by
  rw [Array.getElem?_push]; simp [Nat.ne_of_lt hk]
theorem Ext.push {w : World} {F : Frz} (hf : ∀ k i, F k i → k < w.heap.size) (o : Obj) (n : Nat) : Ext w F { w with heap := w.heap.push o } (FrzNew F w.heap.size n) where
  os := rfl
  tape := rfl
  output := rfl
  size := by simp
  old b hb := ⟨heap_push_old _ _ _ hb, fun i hi => hi.elim id fun h => by omega⟩
  kept k i hk := ⟨.inl hk, cell?_push_old w o k i (hf k i hk)⟩
  wf k i hi := by rcases hi with h | ⟨rfl, _⟩ <;> simp; exact Nat.lt_succ_of_lt (hf k i h)
theorem Holds.new (w : World) (F : Frz) (arr : Array Value) (T : Nat) (m : Nat × Nat) (off n : Nat) (vs : List Value) (hn : off + vs.length ≤ n)
    (h : ∀ i v, vs[i]? = some v → arr[off + i]? = some v) : Holds { w with heap := w.heap.push (.cells arr T m) } (FrzNew F w.heap.size n) w.heap.size off vs := by
  intro i v hi
  have hlt : i < vs.length := by
    rcases Nat.lt_or_ge i vs.length with h' | h'
    · exact h'
    · rw [List.getElem?_eq_none h'] at hi; cases hi
  refine ⟨.inr ⟨rfl, by omega⟩, ?_⟩
  have : (w.heap.push (.cells arr T m))[w.heap.size]? = some (.cells arr T m) := by simp
  simp only [World.cell?, this, Option.isSome_none, Bool.false_eq_true, if_false]
  exact h i v hi

/-- What the run of an operation has to come to. -/
def OpRes (P : Program) (o : Oper) (ev : Operand → Value) (w : World) (R : Value → World → Prop) : Prop :=
  match (execOp ev o).run P w with
  | .ok (.value v) w' => R v w'
  | .ok .skip w' => R undef w'
  | .ok (.enter f args) w' => Calls P f args w' fun e w'' => ∃ v, e = .returned v ∧ R v w''
  | _ => False

theorem OpRes.mono {P : Program} {o : Oper} {ev : Operand → Value} {w : World} {R R' : Value → World → Prop} (h : OpRes P o ev w R) (hr : ∀ v w', R v w' → R' v w') : OpRes P o ev w R' := by
  unfold OpRes at *
  split at h <;> first | exact hr _ _ h | (exact h.mono fun e w'' he => by obtain ⟨v, e1, h1⟩ := he; exact ⟨v, e1, hr _ _ h1⟩) | exact h.elim

theorem OpRes.wp {P : Program} {o : Oper} {a : Act} {w : World} {R : Value → World → Prop} {next : Act → World → Prop} {Q : Exit → Act → World → Prop} (h : OpRes P o a.eval w R)
    (hr : ∀ v w', R v w' → next (a.put o.dst v) w') : o.wp P a w next Q := by
  unfold OpRes at h
  unfold Oper.wp
  split at h
  · rename_i v w' e; rw [e]; exact hr _ _ h
  · rename_i w' e; rw [e]; exact hr _ _ h
  · rename_i f args w' e
    rw [e]
    exact h.mono fun e w'' he => by obtain ⟨v, rfl, h1⟩ := he; exact hr _ _ h1
  · exact h.elim

theorem OpRes.congr {P : Program} {o : Oper} {ev ev' : Operand → Value} {w : World} {R : Value → World → Prop} (h : OpRes P o ev w R) (he : execOp ev' o = execOp ev o) : OpRes P o ev' w R := by
  unfold OpRes at *; rw [he]; exact h

/-- The frozen cells lie in blocks that are there. -/
abbrev WF (w : World) (F : Frz) : Prop := ∀ k i, F k i → k < w.heap.size
abbrev Owns (w : World) (F : Frz) (own : Own) : Prop := ∀ k o, own k = some o → OwnAt w F k o

/-- An operation that writes nothing, at such operands and such objects of the call's own, comes to such a value. -/
def VSem (P : Program) (o : Oper) (ρ : Operand → AV) (own : Own) (d : AV) : Prop :=
  ∀ w F (ev : Operand → Value), WF w F → Owns w F own → (∀ x ∈ o.op.operands, Rep w F (ρ x) (ev x)) →
    OpRes P o ev w fun v w' => ∃ F', Ext w F w' F' ∧ Rep w' F' d v

theorem VSem.congr {P : Program} {o : Oper} {ρ ρ' : Operand → AV} {own : Own} {d : AV} (h : VSem P o ρ own d) (he : ∀ x ∈ o.op.operands, ρ' x = ρ x) : VSem P o ρ' own d :=
  fun w F ev hf ho hr => h w F ev hf ho fun x hx => he x hx ▸ hr x hx
theorem VSem.owned {P : Program} {o : Oper} {ρ : Operand → AV} {own : Own} {d : AV} (h : VSem P o ρ noOwn d) : VSem P o ρ own d :=
  fun w F ev hf _ hr => h w F ev hf (fun _ _ h => by cases h) hr

/-- The usual way: the run is a value, the world stays. -/
theorem VSem.of_run {P : Program} {o : Oper} {ρ : Operand → AV} {own : Own} {d : AV}
    (h : ∀ w F (ev : Operand → Value), WF w F → Owns w F own → (∀ x ∈ o.op.operands, Rep w F (ρ x) (ev x)) → ∃ v, (execOp ev o).run P w = .ok (.value v) w ∧ Rep w F d v) : VSem P o ρ own d := by
  intro w F ev hf ho hr
  obtain ⟨v, e, h1⟩ := h w F ev hf ho hr
  unfold OpRes
  rw [e]
  exact ⟨F, Ext.refl hf, h1⟩

/-! ### Moves -/
theorem vs_move {P : Program} {o : Oper} {ρ : Operand → AV} {own : Own} {x : Operand} (h : o.op = .move x) : VSem P o ρ own (ρ x) :=
  VSem.of_run fun w F ev _ _ hr => ⟨ev x, by simp [execOp, h], hr x (by simp [h, Op.operands])⟩
theorem vs_assign {P : Program} {o : Oper} {ρ : Operand → AV} {own : Own} {x : Operand} (h : o.op = .assign x) : VSem P o ρ own (ρ x) :=
  VSem.of_run fun w F ev _ _ hr => ⟨ev x, by simp [execOp, h], hr x (by simp [h, Op.operands])⟩

def pickA (t : Bool) : AV → AV → AV
  | .raw (.bool x), .raw (.bool y) => .raw (.bool (match t with | true => x | false => y))
  | x, y => match t with | true => x | false => y
theorem pickA_eq (t : Bool) (x y : AV) : pickA t x y = if t then x else y := by
  unfold pickA
  split <;> cases t <;> rfl
theorem vs_pick {P : Program} {o : Oper} {ρ : Operand → AV} {own : Own} {c a b : Operand} {t : Bool} (h : o.op = .pick c a b) (hc : ρ c = .raw (.bool t)) : VSem P o ρ own (pickA t (ρ a) (ρ b)) :=
  VSem.of_run fun w F ev _ _ hr => by
    have h1 := hr c (by simp [h, Op.operands])
    rw [hc] at h1
    simp only [Rep] at h1
    refine ⟨if t then ev a else ev b, by cases t <;> simp [execOp, h, h1.1, asBool], ?_⟩
    rw [pickA_eq]
    cases t
    · exact hr b (by simp [h, Op.operands])
    · exact hr a (by simp [h, Op.operands])

/-! ### Scalars -/
def binV (op : BinOp) (x y : Value) : Option (Prop × Value) :=
  match op, x, y with
  | .add, .int k a, .int k' b => some (k = k', .int k (k.wrap (a + b)))
  | .sub, .int k a, .int k' b => some (k = k', .int k (k.wrap (a - b)))
  | .mul, .int k a, .int k' b => some (k = k', .int k (k.wrap (a * b)))
  | .quo, .int k a, .int k' b => some (k = k' ∧ b ≠ 0, .int k (k.wrap (a.tdiv b)))
  | .rem, .int k a, .int k' b => some (k = k' ∧ b ≠ 0, .int k (a.tmod b))
  | .and, .int k a, .int k' b => some (k = k', .int k (k.wrap (BitVec.ofInt k.bits a &&& BitVec.ofInt k.bits b).toNat))
  | .or, .int k a, .int k' b => some (k = k', .int k (k.wrap (BitVec.ofInt k.bits a ||| BitVec.ofInt k.bits b).toNat))
  | .xor, .int k a, .int k' b => some (k = k', .int k (k.wrap (BitVec.ofInt k.bits a ^^^ BitVec.ofInt k.bits b).toNat))
  | .shl, .int k a, .int _ b => some (0 ≤ b, .int k (k.wrap (a * 2 ^ (min b.toNat k.bits))))
  | .shr, .int k a, .int _ b => some (0 ≤ b, .int k (a.fdiv (2 ^ (min b.toNat k.bits))))
  | .eql, .int k a, .int k' b => some (k = k', .bool (decide (a = b)))
  | .neq, .int k a, .int k' b => some (k = k', .bool (!decide (a = b)))
  | .lss, .int k a, .int k' b => some (k = k', .bool (decide (a < b)))
  | .leq, .int k a, .int k' b => some (k = k', .bool (decide (a ≤ b)))
  | .gtr, .int k a, .int k' b => some (k = k', .bool (decide (a > b)))
  | .geq, .int k a, .int k' b => some (k = k', .bool (decide (a ≥ b)))
  | .add, .string a, .string b => some (((a.size + b.size : Nat) : Int) ≤ 9223372036854775807, .string (a ++ b))
  | .eql, .string a, .string b => some (True, .bool (a.toList == b.toList))
  | .neq, .string a, .string b => some (True, .bool (!(a.toList == b.toList)))
  | .lss, .string a, .string b => some (True, .bool (Op.bytesLess a.toList b.toList))
  | .leq, .string a, .string b => some (True, .bool (Op.bytesLess a.toList b.toList || a.toList == b.toList))
  | .gtr, .string a, .string b => some (True, .bool (!(Op.bytesLess a.toList b.toList || a.toList == b.toList)))
  | .geq, .string a, .string b => some (True, .bool (!Op.bytesLess a.toList b.toList))
  | _, _, _ => none

theorem run_eqGuard_raw (P : Program) (w : World) (op : BinOp) (t : Nat) (x y : Operand) (a b : Value) (ha : match a with | .agg _ | .nilIface => False | _ => True) : (eqGuard op t x y a b).run P w = .ok () w := by
  unfold eqGuard
  cases op <;> simp <;> (cases a <;> simp at ha ⊢)

theorem binV_run {P : Program} {w : World} {op : BinOp} {T : Nat} {x y : Operand} {a b v : Value} {c : Prop} (h : binV op a b = some (c, v)) (hc : c) :
    (do eqGuard op T x y a b; binOp op T a b : Sem Value).run P w = .ok v w := by
  have hg : (eqGuard op T x y a b).run P w = .ok () w := by
    refine run_eqGuard_raw P w op T x y a b ?_
    cases a <;> simp <;> (cases op <;> simp [binV] at h)
  rw [Sem.run_bind, hg, Result.andThen_ok]
  unfold binV at h
  split at h <;> first
    | (injection h with h; injection h with h1 h2; subst h1; subst h2; skip)
    | cases h
  all_goals (try subst hc)
  all_goals first
    | (simp [binOp, Op.intArith, Op.intCmp, Op.intBits]; done)
    | (obtain ⟨rfl, hb⟩ := hc; simp [binOp, Op.intDiv, hb]; done)
    | (have hc' : ¬ _ < (0 : Int) := Int.not_lt.2 hc; simp [binOp, Op.shift, hc']; done)
    | (simp [binOp, Op.stringOp]; done)
    | skip
  all_goals first
    | (simp only [binOp, Op.intCmp]; simp; rfl)
    | (simp only [binOp, Op.intCmp]; rfl)
    | skip
  · simp only [binOp, Op.stringOp]
    rw [if_neg (by rw [show IntKind.i64.max = 9223372036854775807 from by decide]; omega)]
    rfl
end Go.Proofs.Ytenfgknhongaaaa.Hl
