/- A program logic with abstract values over the model, part 2: calls, memory that is written, comparison of structs. -/
import Derived.Test.YtghnigbihllnmaaGreatHlA
import Derived.Deep.AppendSrc
import Derived.Laws.StructEq
set_option linter.unusedVariables false
set_option linter.unusedSimpArgs false
/- Operations that make or write memory of the call's own. No condition. -/
set_option linter.unusedVariables false
set_option linter.unusedSimpArgs false

namespace Go.Proofs.YtghnigbihllnmaaGreat.Hl
open Go

def Own.set (own : Own) (k : Nat) (o : OB) : Own := fun j => if j = k then some o else own j
def Own.del (own : Own) (k : Nat) : Own := fun j => if j = k then none else own j
/-- Object k is now object k'. -/
def Own.move (own : Own) (k k' : Nat) (o : OB) : Own := fun j => if j = k' then some o else if j = k then none else own j

/-- What an operation comes to: a value and new objects of the call's own. -/
def ESem (P : Program) (o : Oper) (ρ : Operand → AV) (own : Own) (K : AV → Own → Prop) : Prop :=
  ∀ w F (ev : Operand → Value), WF w F → Owns w F own → (∀ x ∈ o.op.operands, Rep w F (ρ x) (ev x)) →
    OpRes P o ev w fun v w' => ∃ F' d own', WS ⟨w, F, own⟩ w' F' own' ∧ Rep w' F' d v ∧ K d own'

theorem ESem.mono {P : Program} {o : Oper} {ρ : Operand → AV} {own : Own} {K K' : AV → Own → Prop} (h : ESem P o ρ own K) (hk : ∀ d own', K d own' → K' d own') : ESem P o ρ own K' :=
  fun w F ev hf ho hr => (h w F ev hf ho hr).mono fun v w' ⟨F', d, own', a, b, c⟩ => ⟨F', d, own', a, b, hk _ _ c⟩
theorem ESem.of_V {P : Program} {o : Oper} {ρ : Operand → AV} {own : Own} {K : AV → Own → Prop} {d : AV} (h : VSem P o ρ own d) (hk : K d own) : ESem P o ρ own K :=
  fun w F ev hf ho hr => (h w F ev hf ho hr).mono fun v w' ⟨F', a, b⟩ => ⟨F', d, own, a.ws ho, b, hk⟩
theorem ESem.congr {P : Program} {o : Oper} {ρ ρ' : Operand → AV} {own : Own} {K : AV → Own → Prop} (h : ESem P o ρ own K) (he : ∀ x ∈ o.op.operands, ρ' x = ρ x) : ESem P o ρ' own K :=
  fun w F ev hf ho hr => h w F ev hf ho fun x hx => he x hx ▸ hr x hx

/-! ### New blocks -/
theorem WS.push {w : World} {F : Frz} {own : Own} (hf : WF w F) (ho : Owns w F own) (arr : Array Value) (o : OB) (h1 : arr.size = o.cap) (h2 : o.cs.length ≤ o.cap) (h3 : Reps w F o.cs (arr.toList.take o.cs.length))
    (h4 : ∀ x ∈ arr.toList.take o.cs.length, x.oneCell' = true) (h5 : o.fz ≤ o.cs.length) : WS ⟨w, F, own⟩ { w with heap := w.heap.push (.cells arr o.T (0, 0)) } F (own.set w.heap.size o) where
  os := rfl
  tape := rfl
  output := rfl
  size := by simp
  keep b hb hn := by
    refine ⟨heap_push_old _ _ _ hb, ?_, fun _ h => h⟩
    simp only at hb hn
    simp [Own.set, Nat.ne_of_lt hb, hn]
  kept k i hk := ⟨hk, cell?_push_old w _ k i (hf k i hk)⟩
  wf k i hi := by simp; exact Nat.lt_succ_of_lt (hf k i hi)
  owns k ob hk := by
    have hkept : Kept w F { w with heap := w.heap.push (.cells arr o.T (0, 0)) } F := fun k i hk => ⟨hk, cell?_push_old w _ k i (hf k i hk)⟩
    simp only [Own.set] at hk
    split at hk
    · rename_i e
      injection hk with hk
      subst hk
      subst e
      exact ⟨arr, by simp, h1, h2, h3.mono hkept _ _, h4, fun i hi => absurd (hf _ _ hi) (Nat.lt_irrefl _), h5⟩
    · exact (ho k ob hk).mono hkept (heap_push_old _ _ _ (ho k ob hk).lt) (fun _ h => h)

def allocE (P : Program) (T : Nat) (own : Own) (K : AV → Own → Prop) : Prop :=
  match ti P T with
  | some i => i.zero.all (·.oneCell') = true ∧ ∀ k, own k = none → K (.raw (.pointer (some ⟨k, 0, none⟩))) (own.set k ⟨T, i.zero.map .raw, 0, i.zero.length⟩)
  | none => False
theorem es_alloc {P : Program} {o : Oper} {ρ : Operand → AV} {own : Own} {T : Nat} {K : AV → Own → Prop} (h : o.op = .alloc T) (hd : allocE P T own K) : ESem P o ρ own K := by
  unfold allocE at hd
  split at hd
  · rename_i i hi
    obtain ⟨info, td, z, e1, e2, e3, e4, e5, e6, e7⟩ := ti_spec hi
    intro w F ev hf ho hr
    have hrun : (execOp ev o).run P w = .ok (.value (.pointer (some ⟨w.heap.size, 0, none⟩))) { w with heap := w.heap.push (.cells z.cells T (0, 0)) } := by
      simp only [execOp, h, Instr.alloc, Sem.run_bind, run_zeroValue e1 e6, Result.andThen_ok, run_newVar, Sem.run_pure]
    have hz : ∀ y ∈ i.zero, y.oneCell' = true := by simpa using hd.1
    have hlen : z.cells.toList.length = i.zero.length := by rw [e7]
    unfold OpRes
    rw [hrun]
    refine ⟨F, _, _, WS.push hf ho z.cells ⟨T, i.zero.map .raw, 0, i.zero.length⟩ (by simpa using hlen) (by simp) ?_ ?_ (Nat.zero_le _), ?_, hd.2 w.heap.size ?_⟩
    · simp only [List.length_map]
      rw [List.take_of_length_le (by rw [hlen]; exact Nat.le_refl _), e7]
      exact Reps.raws hz
    · simp only [List.length_map]
      rw [List.take_of_length_le (by rw [hlen]; exact Nat.le_refl _), e7]
      exact hz
    · simp [Rep, Value.oneCell']
    · cases hq : own w.heap.size with
      | none => rfl
      | some ob => exact absurd (ho _ _ hq).lt (Nat.lt_irrefl _)
  · exact hd.elim

theorem own_fresh {w : World} {F : Frz} {own : Own} (ho : Owns w F own) : own w.heap.size = none := by
  cases hq : own w.heap.size with
  | none => rfl
  | some ob => exact absurd (ho _ _ hq).lt (Nat.lt_irrefl _)

def okA : AV → Prop
  | .tup _ | .any => False
  | _ => True
theorem Rep.cells' {w : World} {F : Frz} {d : AV} {x : Value} (h : Rep w F d x) (hf : okA d) :
    Reps w F (cellsA d) x.cells.toList ∧ (∀ y ∈ x.cells.toList, y.oneCell' = true) ∧ (cellsA d).length = x.cells.size := by
  cases d with
  | st cs =>
    obtain ⟨g1, g2, g3, g4, _⟩ := h.cells (i := ⟨.arr 0 0, cs.length, 0, []⟩) (by simp [fitA, TK.agg])
    exact ⟨g2, g3, by rw [g4, g1]⟩
  | tup ds => exact hf.elim
  | any => exact hf.elim
  | _ =>
    obtain ⟨g1, g2, g3, g4, _⟩ := h.cells (i := ⟨.other, 1, 0, []⟩) (by simp [fitA, TK.agg])
    exact ⟨g2, g3, by rw [g4, g1]⟩

def boxE (T : Nat) (x : AV) (own : Own) (K : AV → Own → Prop) : Prop :=
  okA x ∧ ∀ k, own k = none → K (.raw (.pointer (some ⟨k, 0, none⟩))) (own.set k ⟨T, cellsA x, 0, (cellsA x).length⟩)
theorem es_box {P : Program} {o : Oper} {ρ : Operand → AV} {own : Own} {T : Nat} {x : Operand} {K : AV → Own → Prop} (h : o.op = .box T x) (hd : boxE T (ρ x) own K) : ESem P o ρ own K := by
  intro w F ev hf ho hr
  have h1 := hr x (by simp [h, Op.operands])
  obtain ⟨g1, g2, g3⟩ := h1.cells' hd.1
  have hrun : (execOp ev o).run P w = .ok (.value (.pointer (some ⟨w.heap.size, 0, none⟩))) { w with heap := w.heap.push (.cells (ev x).cells T (0, 0)) } := by
    simp only [execOp, h, Instr.box, Sem.run_bind, run_newVar, Result.andThen_ok, Sem.run_pure]
  unfold OpRes
  rw [hrun]
  refine ⟨F, _, _, WS.push hf ho (ev x).cells ⟨T, cellsA (ρ x), 0, (cellsA (ρ x)).length⟩ g3.symm (Nat.le_refl _) ?_ ?_ (Nat.zero_le _), by simp [Rep, Value.oneCell'], hd.2 w.heap.size (own_fresh ho)⟩
  · simp only
    rw [List.take_of_length_le (by simp [g3])]
    exact g1
  · simp only
    rw [List.take_of_length_le (by simp [g3])]
    exact g2

def bsE (P : Program) (T n : Nat) (parts : List (Nat × AV)) (own : Own) (K : AV → Own → Prop) : Prop :=
  match ti P T with
  | some ⟨.slc el, _, _, _⟩ => match ti P el with
    | some e => partsOk e n 0 parts ∧ n * e.size ≤ 16777216 ∧ ∀ k, own k = none → K (.raw (.slice (some ⟨k, 0, none⟩) n n)) (own.set k ⟨el, parts.flatMap (fun p => cellsA p.2), 0, n * e.size⟩)
    | none => False
  | _ => False
theorem fitA_okA {i : TI} {d : AV} (h : fitA i d) : okA d := by cases d <;> simp only [fitA, okA] at h ⊢
theorem Reps.flatMap {w : World} {F : Frz} : ∀ {ds : List AV} {vs : List Value}, Reps w F ds vs → (∀ d ∈ ds, okA d) →
    Reps w F (ds.flatMap cellsA) (vs.flatMap fun v => v.cells.toList) ∧ ∀ y ∈ vs.flatMap (fun v => v.cells.toList), y.oneCell' = true
  | [], vs, h, _ => by simp only [Reps] at h; subst h; simp [Reps]
  | d :: ds, vs, h, hd => by
    simp only [Reps] at h
    obtain ⟨x, xs, rfl, h1, h2⟩ := h
    obtain ⟨g1, g2, g3⟩ := h1.cells' (hd d (by simp))
    obtain ⟨k1, k2⟩ := Reps.flatMap h2 fun e he => hd e (by simp [he])
    simp only [List.flatMap_cons]
    refine ⟨g1.append k1, fun y hy => ?_⟩
    rcases List.mem_append.1 hy with hy | hy
    · exact g2 y hy
    · exact k2 y hy
theorem es_bslice {P : Program} {o : Oper} {ρ : Operand → AV} {own : Own} {T n : Nat} {parts : Array (Nat × Operand)} {K : AV → Own → Prop} (h : o.op = .buildSlice T n parts)
    (hd : bsE P T n (parts.toList.map fun p => (p.1, ρ p.2)) own K) : ESem P o ρ own K := by
  unfold bsE at hd
  split at hd
  · rename_i el sz by_ zs hi
    split at hd
    · rename_i e he
      obtain ⟨hp, hn, hk⟩ := hd
      intro w F ev hf ho hr
      have hrr : ∀ (j : Nat) (p : Nat × AV) (q : Nat × Value), (parts.toList.map fun p => (p.1, ρ p.2))[j]? = some p → (parts.map fun x => (x.1, ev x.2)).toList[j]? = some q → p.1 = q.1 ∧ Rep w F p.2 q.2 := by
        intro j p q hj hj'
        rw [List.getElem?_map] at hj
        simp only [Array.toList_map, List.getElem?_map] at hj'
        cases hp : parts.toList[j]? with
        | none => rw [hp] at hj; cases hj
        | some x =>
          rw [hp] at hj hj'
          injection hj with hj; injection hj' with hj'
          subst hj; subst hj'
          exact ⟨rfl, hr x.2 (by simp only [h, Op.operands]; simp only [List.mem_toArray, List.mem_map]; exact ⟨x, List.mem_of_getElem? hp, rfl⟩)⟩
      obtain ⟨el', out, r1, r2, r3⟩ := run_buildSlice (w := w) (F := F) (vs := parts.map fun x => (x.1, ev x.2)) hi rfl he hp hn (by simp) hrr
      subst r3
      have hrun : (execOp ev o).run P w = .ok (.value (.slice (some ⟨w.heap.size, 0, none⟩) n n)) { w with heap := w.heap.push (.cells out el' (0, 0)) } := by
        simp only [execOp, h]
        rw [Sem.run_bind, r1]
        rfl
      obtain ⟨g1, g2⟩ := partsOk_get hp
      have hall : Reps w F ((parts.toList.map fun p => (p.1, ρ p.2)).map (·.2)) ((parts.map fun x => (x.1, ev x.2)).toList.map (·.2)) := Reps.of_get (by simp) fun j d v hj hj' => by
        rw [List.getElem?_map, Option.map_eq_some_iff] at hj hj'
        obtain ⟨p, hp, rfl⟩ := hj
        obtain ⟨q, hq, rfl⟩ := hj'
        exact (hrr j p q hp hq).2
      have hfit : ∀ d ∈ (parts.toList.map fun p => (p.1, ρ p.2)).map (·.2), fitA e d := fun d hd => by
        simp only [List.mem_map] at hd
        obtain ⟨p, ⟨q, hq, rfl⟩, rfl⟩ := hd
        obtain ⟨j, hj, hjq⟩ := List.getElem_of_mem hq
        exact (g2 j (q.1, ρ q.2) (by rw [List.getElem?_map, List.getElem?_eq_getElem hj, hjq]; rfl)).2
      obtain ⟨m1, m2⟩ := hall.flatMap fun d hd => fitA_okA (hfit d hd)
      rw [← r2] at m1 m2
      have hcs : (parts.toList.map fun p => (p.1, ρ p.2)).flatMap (fun p => cellsA p.2) = ((parts.toList.map fun p => (p.1, ρ p.2)).map (·.2)).flatMap cellsA := by simp [List.flatMap_map]
      have hlen2 : (((parts.toList.map fun p => (p.1, ρ p.2)).map (·.2)).flatMap cellsA).length = n * e.size := by
        have : ∀ (ds : List AV), (∀ d ∈ ds, fitA e d) → (ds.flatMap cellsA).length = ds.length * e.size := by
          intro ds
          induction ds with
          | nil => intro _; simp
          | cons d ds ih =>
            intro hd
            rw [List.flatMap_cons, List.length_append, ih fun d' hd' => hd d' (by simp [hd']), List.length_cons, Nat.add_mul]
            have : (cellsA d).length = e.size := by
              have := hd d (by simp)
              cases d <;> simp only [fitA] at this <;> simp [cellsA, this.2]
            omega
        rw [this _ hfit]
        simp at g1 ⊢
        rw [g1]
      have hout : out.toList.length = n * e.size := by rw [m1.length, hlen2]
      unfold OpRes
      rw [hrun]
      refine ⟨F, _, _, WS.push hf ho out ⟨el', _, 0, n * e.size⟩ (by simpa using hout) (by simp only; rw [hcs, hlen2]; exact Nat.le_refl _) ?_ ?_ (Nat.zero_le _), by simp [Rep, Value.oneCell'], hk w.heap.size (own_fresh ho)⟩
      · simp only
        rw [hcs, List.take_of_length_le (by rw [hout, hlen2]; exact Nat.le_refl _)]
        exact m1
      · simp only
        rw [hcs, List.take_of_length_le (by rw [hout, hlen2]; exact Nat.le_refl _)]
        exact m2
    · exact hd.elim
  · exact hd.elim

/-! ### Stores -/
/-- A value of one or more cells put into a list of cells. -/
def putA (agg : Bool) (off : Nat) (x : AV) (cs : List AV) : List AV := match agg with
  | true => putCells cs off (cellsA x)
  | false => cs.set off x
theorem putCells_one {cs : List AV} {i : Nat} {d : AV} (h : i < cs.length) : putCells cs i [d] = cs.set i d := by
  unfold putCells
  rw [List.set_eq_take_append_cons_drop, if_pos h]
  simp
theorem putA_eq {i : TI} {off : Nat} {x : AV} {cs : List AV} (hf : fitA i x) (h : off + i.size ≤ cs.length) : putA i.k.agg off x cs = putCells cs off (cellsA x) := by
  cases ha : i.k.agg with
  | true => rfl
  | false =>
    have h1 : cellsA x = [x] ∧ i.size = 1 := by cases x <;> simp only [fitA, ha] at hf <;> first | exact hf.elim | (exact ⟨rfl, hf.2⟩) | (cases hf.1)
    rw [h1.1, putCells_one (by omega)]
    rfl
def storeE (P : Program) (T : Nat) (a x : AV) (own : Own) (K : AV → Own → Prop) : Prop :=
  match a with
  | .raw (.pointer (some ⟨k, off, none⟩)) => match own k, ti P T with
    | some o, some i => fitA i x ∧ off + i.size ≤ o.cs.length ∧ o.fz ≤ off ∧ K .any (own.set k { o with cs := putA i.k.agg off x o.cs })
    | _, _ => False
  | _ => False

theorem cell?_setRow (w : World) (g k i : Nat) (cs : Array Value) (h : k ≠ g) : (w.setRow g cs).cell? ⟨k, i, none⟩ = w.cell? ⟨k, i, none⟩ := by
  simp only [World.cell?, setRow_other w g k cs h]

/-- An own object's cells are replaced. -/
theorem WS.put {w : World} {F : Frz} {own : Own} (hf : WF w F) (ho : Owns w F own) {k : Nat} {o : OB} (hk : own k = some o) {arr : Array Value} (harr : w.heap[k]? = some (.cells arr o.T (0, 0))) (cur : Array Value) (o' : OB) (hT : o'.T = o.T)
    (h1 : cur.size = o'.cap) (h2 : o'.cs.length ≤ o'.cap) (h3 : Reps w F o'.cs (cur.toList.take o'.cs.length)) (h4 : ∀ x ∈ cur.toList.take o'.cs.length, x.oneCell' = true)
    (h5 : ∀ i, F k i → i < o'.fz ∧ cur[i]? = arr[i]?) (h6 : o'.fz ≤ o'.cs.length) : WS ⟨w, F, own⟩ (w.setRow k cur) F (own.set k o') := by
  have hkept : Kept w F (w.setRow k cur) F := fun j i hj => ⟨hj, by
    by_cases h : j = k
    · subst h
      have := setRow_heap w j arr cur o.T (0, 0) harr
      simp only [World.cell?, this, harr, Option.isSome_none, Bool.false_eq_true, if_false]
      exact (h5 i hj).2
    · exact cell?_setRow w k j i cur h⟩
  refine ⟨rfl, rfl, rfl, by simp, fun b hb hn => ?_, hkept, fun j i hj => by simpa using hf j i hj, fun j ob hj => ?_⟩
  · have hne : b ≠ k := by intro h; subst h; simp only at hn; rw [hk] at hn; cases hn
    simp only at hn
    exact ⟨setRow_other w k b cur hne, by simp [Own.set, hne, hn], fun _ h => h⟩
  · simp only [Own.set] at hj
    split at hj
    · rename_i e
      injection hj with hj
      subst hj
      subst e
      exact ⟨cur, by rw [hT]; exact setRow_heap w j arr cur o.T (0, 0) harr, h1, h2, h3.mono hkept _ _, h4, fun i hi => (h5 i hi).1, h6⟩
    · rename_i hne
      exact (ho j ob hj).mono hkept (setRow_other w k j cur hne) (fun _ h => h)

theorem es_store {P : Program} {o : Oper} {ρ : Operand → AV} {own : Own} {T : Nat} {a x : Operand} {K : AV → Own → Prop} (h : o.op = .store T a x) (hd : storeE P T (ρ a) (ρ x) own K) : ESem P o ρ own K := by
  intro w F ev hf ho hr
  have h1 := hr a (by simp [h, Op.operands])
  have h2 := hr x (by simp [h, Op.operands])
  generalize ρ a = da at *
  generalize ρ x = dx at *
  unfold storeE at hd
  split at hd
  · rename_i k off
    split at hd
    · rename_i ob i hob hi
      obtain ⟨hfit, hlt, hfz, hK⟩ := hd
      rw [putA_eq hfit hlt] at hK
      obtain ⟨info, td, z, e1, e2, e3, e4, e5, e6, e7⟩ := ti_spec hi
      simp only [Rep] at h1
      obtain ⟨g1, g2, g3, g4, g5, g6⟩ := h2.cells hfit
      obtain ⟨arr, a1, a2, a3, a4, a5, a6, a7⟩ := ho k ob hob
      have hvl : (ev x).cells.toList.length = i.size := by simpa using g1
      have hst := run_storeCells_at (P := P) k off ob.T (ev x).cells.toList 0 arr w a1 (by rw [hvl, a2]; omega) g3
      simp only [Nat.add_zero] at hst
      obtain ⟨cur, hcur⟩ : ∃ cur : Array Value, cur = (arr.toList.take off ++ (ev x).cells.toList ++ arr.toList.drop (off + (ev x).cells.toList.length)).toArray := ⟨_, rfl⟩
      rw [← hcur] at hst
      have hrun : (execOp ev o).run P w = .ok .skip (w.setRow k cur) := by
        simp only [execOp, h, h1.1, Instr.storeAt, Instr.sureAddr, Sem.run_bind, Sem.run_pure, Result.andThen_ok, storeVar, run_sizeOf e1, e4]
        rw [if_neg (by omega)]
        rw [hst]
        rfl
      unfold OpRes
      rw [hrun]
      have hcl : cur.size = ob.cap := by rw [hcur]; simp [a2, hvl, g1]; omega
      have hpl : (putCells ob.cs off (cellsA dx)).length = ob.cs.length := by simp [putCells, g4]; omega
      have htake : cur.toList.take ob.cs.length = (arr.toList.take ob.cs.length).take off ++ (ev x).cells.toList ++ (arr.toList.take ob.cs.length).drop (off + i.size) := by
        rw [hcur]
        simp only [hvl]
        rw [List.take_append, List.take_append]
        have hx1 : (arr.toList.take off).length = off := by simp [a2]; omega
        have hx2 : ((arr.toList.take off) ++ (ev x).cells.toList).length = off + i.size := by rw [List.length_append, hx1, hvl]
        rw [hx1, hx2, List.take_of_length_le (i := ob.cs.length) (l := arr.toList.take off) (by omega), List.take_of_length_le (i := ob.cs.length - off) (by omega), List.take_take, Nat.min_eq_left (by omega), List.drop_take]
      refine ⟨F, .any, _, WS.put hf ho hob a1 cur { ob with cs := putCells ob.cs off (cellsA dx) } rfl hcl (by rw [hpl]; exact a3) ?_ ?_ ?_ (by simp only; rw [hpl]; exact a7), trivial, hK⟩
      · simp only
        rw [hpl, htake]
        have hcl2 : (cellsA dx).length = i.size := g4
        simp only [putCells, hcl2]
        exact ((a4.take off).append g2).append (a4.drop (off + i.size))
      · simp only
        rw [hpl, htake]
        intro y hy
        rcases List.mem_append.1 hy with hy | hy
        · rcases List.mem_append.1 hy with hy | hy
          · exact a5 y (List.mem_of_mem_take hy)
          · exact g3 y hy
        · exact a5 y (List.mem_of_mem_drop hy)
      · intro j hj
        have := a6 j hj
        refine ⟨this, ?_⟩
        rw [hcur]
        simp only [List.getElem?_toArray]
        rw [List.getElem?_append_left (by simp [a2]; omega), List.getElem?_append_left (by simp [a2]; omega), List.getElem?_take, if_pos (by omega)]
        simp
    · exact hd.elim
  · exact hd.elim

/-! ### make -/
def makeE (P : Program) (T : Nat) (n c : AV) (own : Own) (K : AV → Own → Prop) : Prop :=
  match ti P T, n, c with
  | some ⟨.slc el, _, _, _⟩, .raw (.int _ n), .raw (.int _ c) => match ti P el with
    | some e => e.zero.all (·.oneCell') = true ∧ e.zero.length = e.size ∧ 0 ≤ n ∧ n ≤ c ∧ c * e.bytes ≤ 281474976710656 ∧ c ≤ 281474976710656 ∧
        ∀ k, own k = none → K (.raw (.slice (some ⟨k, 0, none⟩) n.toNat c.toNat)) (own.set k ⟨el, (List.replicate n.toNat (e.zero.map AV.raw)).flatten, 0, c.toNat * e.size⟩)
    | none => False
  | _, _, _ => False

theorem range_mod_flatten (z : List Value) : ∀ (n m : Nat), n ≤ m → (((Array.range (m * z.length)).map (z.toArray[· % z.toArray.size]!)).toList).take (n * z.length) = (List.replicate n z).flatten
  | 0, m, _ => by simp
  | n + 1, m, h => by
    have ih := range_mod_flatten z n m (by omega)
    rw [List.replicate_succ', List.flatten_append, ← ih]
    simp only [List.flatten_cons, List.flatten_nil, List.append_nil]
    rw [show (n + 1) * z.length = n * z.length + z.length by rw [Nat.add_mul]; omega, List.take_add]
    congr 1
    apply List.ext_getElem?
    intro i
    have hm : n * z.length + z.length ≤ m * z.length := by
      have := Nat.mul_le_mul_right z.length h
      rw [Nat.add_mul] at this
      omega
    rw [List.getElem?_take, List.getElem?_drop]
    by_cases hi : i < z.length
    · rw [if_pos hi]
      have hlt : n * z.length + i < m * z.length := by omega
      have hmod : (n * z.length + i) % z.length = i := by rw [Nat.mul_comm, Nat.mul_add_mod]; exact Nat.mod_eq_of_lt hi
      simp [hlt, hmod, hi]
    · rw [if_neg hi, List.getElem?_eq_none (by omega)]

theorem Reps.replicate {w : World} {F : Frz} {cs : List AV} {vs : List Value} (h : Reps w F cs vs) : ∀ n, Reps w F (List.replicate n cs).flatten (List.replicate n vs).flatten
  | 0 => by simp [Reps]
  | n + 1 => by simp only [List.replicate_succ, List.flatten_cons]; exact h.append (Reps.replicate h n)

theorem es_make {P : Program} {o : Oper} {ρ : Operand → AV} {own : Own} {T : Nat} {n c : Operand} {K : AV → Own → Prop} (h : o.op = .makeSlice T n c) (hd : makeE P T (ρ n) (ρ c) own K) : ESem P o ρ own K := by
  intro w F ev hf ho hr
  have h1 := hr n (by simp [h, Op.operands])
  have h2 := hr c (by simp [h, Op.operands])
  generalize ρ n = dn at *
  generalize ρ c = dc at *
  unfold makeE at hd
  split at hd
  · rename_i el sz by_ zs k1 n' k2 c' hi
    split at hd
    · rename_i e he
      obtain ⟨hz1, hzl, hn0, hnc, hcb, hcm, hK⟩ := hd
      obtain ⟨_, td, _, _, t2, t3, _⟩ := ti_spec hi
      obtain ⟨info', td', z', f1, f2, f3, f4, f5, f6, f7⟩ := ti_spec he
      cases td <;> simp only [TK.of] at t3 <;> first | cases t3 | skip
      simp only [Rep] at h1 h2
      have hwn : IntKind.i64.wrap n' = n' := by
        unfold IntKind.wrap
        simp [IntKind.bits, IntKind.signed]
        omega
      have hwc : IntKind.i64.wrap c' = c' := by
        unfold IntKind.wrap
        simp [IntKind.bits, IntKind.signed]
        omega
      have hz1' : ∀ y ∈ e.zero, y.oneCell' = true := by simpa using hz1
      have hz' : z'.cells = e.zero.toArray := by rw [← f7]
      have hml : c'.toNat * info'.size = c'.toNat * e.zero.length := by rw [f4, hzl]
      let arr : Array Value := (Array.range (c'.toNat * e.zero.length)).map (e.zero.toArray[· % e.zero.toArray.size]!)
      have hrun : (execOp ev o).run P w = .ok (.value (.slice (some ⟨w.heap.size, 0, none⟩) n'.toNat c'.toNat)) { w with heap := w.heap.push (.cells arr el (0, 0)) } := by
        have hb : (info'.bytes : Int) * c' ≤ 281474976710656 := by rw [f5, Int.mul_comm]; exact hcb
        have hb2 : (info'.bytes : Int) * n' ≤ 281474976710656 := by
          have : (info'.bytes : Int) * n' ≤ (info'.bytes : Int) * c' := Int.mul_le_mul_of_nonneg_left hnc (by omega)
          omega
        simp only [execOp, h, h1.1, h2.1, Instr.makeSlice, Sem.run_bind, run_underlying t2, Result.andThen_ok, asInt, asIntOf, Sem.run_pure, run_typeInfo f1, hwn, hwc]
        rw [if_neg (by simp; omega)]
        simp only [Sem.run_bind, run_askRoom, Result.andThen_ok, run_sizeOf f1, hml, Sem.run_ite, Sem.run_pure, run_zeroValue f1 f6]
        by_cases h0 : c'.toNat * e.zero.length = 0
        · simp [h0, newRow, arr, show Array.range 0 = #[] from rfl]
        · simp [h0, newRow, arr, hz']
      have hns : n'.toNat * e.zero.length ≤ c'.toNat * e.zero.length := Nat.mul_le_mul_right _ (by omega)
      have htk : arr.toList.take (n'.toNat * e.zero.length) = (List.replicate n'.toNat e.zero).flatten := range_mod_flatten e.zero n'.toNat c'.toNat (by omega)
      have hlen : (List.replicate n'.toNat (e.zero.map AV.raw)).flatten.length = n'.toNat * e.zero.length := by simp
      unfold OpRes
      rw [hrun]
      refine ⟨F, _, _, WS.push hf ho arr ⟨el, (List.replicate n'.toNat (e.zero.map AV.raw)).flatten, 0, c'.toNat * e.size⟩ (by simp [arr, hzl]) (by simp only; rw [hlen, ← hzl]; exact hns) ?_ ?_ (Nat.zero_le _), by simp [Rep, Value.oneCell'], hK w.heap.size (own_fresh ho)⟩
      · simp only
        rw [hlen, htk]
        exact (Reps.raws hz1').replicate _
      · simp only
        rw [hlen, htk]
        intro y hy
        simp only [List.mem_flatten, List.mem_replicate] at hy
        obtain ⟨l, ⟨_, rfl⟩, hy⟩ := hy
        exact hz1' y hy
    · exact hd.elim
  · exact hd.elim

/-! ### append -/
/-- Holds its argument back from the symbolic run. -/
abbrev HoldP (A : Prop) : Type := Unit
/-- 'A' under a condition, not looked into before the condition is decided. -/
def Arm (c A : Prop) (_ : HoldP A := ()) : Prop := c → A
theorem Arm_true (A : Prop) (h : HoldP A) : Arm True A h = A := by simp [Arm]
theorem Arm_false (A : Prop) (h : HoldP A) : Arm False A h = True := by simp [Arm]
/-- The cells that are appended, and how many elements they are. -/
def srcA (k : TK) (es : Nat) (x : AV) (own : Own) : Option (Prop × List AV × Nat) :=
  match k, x with
  | .slc _, .lst wd l => some (wd = es ∧ ∀ d ∈ l, okA d, l.flatMap cellsA, l.length)
  | .slc _, .emp => some (True, [], 0)
  | .slc _, .raw (.slice none 0 _) => some (True, [], 0)
  | .slc _, .raw (.slice (some ⟨k, off, none⟩) n _) => match own k with
    | some o => some (off + n * es ≤ o.cs.length, (o.cs.drop off).take (n * es), n)
    | none => none
  | .str, .raw (.string s) => some (es = 1, bytesA s, s.size)
  | _, _ => none

/-- A row of one's own. -/
def rowB : AV → Bool
  | .raw (.slice (some _) _ _) => true
  | _ => false
def appE (P : Program) (T U : Nat) (s x : AV) (own : Own) (K : AV → Own → Prop) : Prop :=
  match ti P T, ti P U with
  | some ⟨.slc el, _, _, _⟩, some u => match ti P el with
    | some e => match srcA u.k e.size x own with
      | some (c, new, m) => c ∧ e.size ≠ 0 ∧ e.zero.length = e.size ∧ match s with
        | .emp => m * e.bytes ≤ 140737488355328 ∧ m ≤ 140737488355328 ∧ Arm (m = 0) (K .emp own) ∧ Arm (m ≠ 0) (∀ k c, own k = none → m ≤ c → K (.raw (.slice (some ⟨k, 0, none⟩) m c)) (own.set k ⟨el, new, 0, c * e.size⟩))
        | .raw (.slice none 0 0) => m * e.bytes ≤ 140737488355328 ∧ m ≤ 140737488355328 ∧ Arm (m = 0) (K .emp own) ∧ Arm (m ≠ 0) (∀ k c, own k = none → m ≤ c → K (.raw (.slice (some ⟨k, 0, none⟩) m c)) (own.set k ⟨el, new, 0, c * e.size⟩))
        | .raw (.slice (some ⟨k, 0, none⟩) n c) => match rowB x with
         | true => match own k with
          | some o => o.T = el ∧ o.fz ≤ n * e.size ∧ (n + m) * e.size ≤ o.cs.length ∧ n + m ≤ c ∧ o.cap = c * e.size ∧
              K (.raw (.slice (some ⟨k, 0, none⟩) (n + m) c)) (own.set k ⟨el, o.cs.take (n * e.size) ++ new ++ o.cs.drop ((n + m) * e.size), o.fz, o.cap⟩)
          | none => False
         | false => match own k with
          | some o => o.T = el ∧ n * e.size = o.cs.length ∧ o.cap = c * e.size ∧ (n + m) * e.bytes ≤ 140737488355328 ∧ n + m ≤ 140737488355328 ∧
              ∀ k' c', (k' = k ∨ own k' = none) → n + m ≤ c' → K (.raw (.slice (some ⟨k', 0, none⟩) (n + m) c')) (own.move k k' ⟨el, o.cs ++ new, o.fz, c' * e.size⟩)
          | none => False
        | _ => False
      | none => False
    | none => False
  | _, _ => False

theorem run_append_room' {P : Program} (w : World) (t tx ty e : TypeId) (i : TypeInfo) (ht : P.underlying t = some (.slice e)) (hi : P.info? e = some i) (b sLen sCap : Nat) (x : Value) (n : Nat) (news : List Value) (hs : Src P i.size tx x n news w)
    (hroom : sLen + n ≤ sCap) {cur : Array Value} {T : TypeId} (hb : w.heap[b]? = some (.cells cur T (0, 0))) (hc : sLen * i.size + news.length ≤ cur.size) :
    (Builtin.append_ #[t, tx] ty #[.slice (some ⟨b, 0, none⟩) sLen sCap, x]).run P w = .ok (.slice (some ⟨b, 0, none⟩) (sLen + n) sCap) (w.setRow b (cur.toList.take (sLen * i.size) ++ news ++ cur.toList.drop (sLen * i.size + news.length)).toArray) := by
  have hst := run_storeCells_at (P := P) b (sLen * i.size) T news 0 cur w hb (by omega) hs.one
  simp only [Nat.add_zero] at hst
  have ha : (⟨b, 0, none⟩ : Addr).add (sLen * i.size) = ⟨b, sLen * i.size, none⟩ := by rw [Addr.add_plain, Nat.zero_add]
  rcases hs.kind with ⟨e', hk⟩ | hk <;> simp [Builtin.append_, Go.run_underlying ht, Go.run_underlying hk, sizeOf, typeInfo, hi, hs.len, hroom, hs.cells, ha, hst]

/-- What is appended, in the world. -/
theorem srcA_src {P : Program} {w : World} {F : Frz} {own : Own} (ho : Owns w F own) {U : Nat} {u e : TI} {x : AV} {v : Value} {c : Prop} {new : List AV} {m : Nat} (hu : ti P U = some u) (hx : srcA u.k e.size x own = some (c, new, m)) (hc : c) (hr : Rep w F x v) (hes : e.size ≠ 0) :
    ∃ news : List Value, Src P e.size U v m news w ∧ Reps w F new news := by
  obtain ⟨info, td, z, e1, e2, e3, e4, e5, e6, e7⟩ := ti_spec hu
  unfold srcA at hx
  split at hx
  · rename_i el wd l hk
    injection hx with hx; injection hx with hx1 hx; injection hx with hx2 hx3; subst hx1; subst hx2; subst hx3
    rw [e3] at hk
    obtain ⟨el', rfl⟩ := TK.of_slc hk
    simp only [Rep] at hr
    obtain ⟨A, cp, rfl, g1, g2, g3⟩ := hr
    by_cases hl : l = []
    · subst hl
      refine ⟨[], ?_, by simp [Reps]⟩
      exact ⟨.inl ⟨el', e2⟩, fun _ => rfl, by cases A <;> simp [Builtin.firstCells, loadCells, loadCellsFrom], by cases A <;> simp [Builtin.firstCells, loadCells, loadCellsFrom], by simp, fun _ h => by cases h⟩
    · obtain ⟨k, off, rfl, hL⟩ := g3 hl
      obtain ⟨hw, hok⟩ := hc
      subst hw
      have key : ∀ (l : List AV) (off : Nat), RepL w F k off e.size l → (∀ d ∈ l, okA d) → ∃ news : List Value, Reps w F (l.flatMap cellsA) news ∧ news.length = l.length * e.size ∧ (∀ j u, news[j]? = some u → w.cell? ⟨k, off + j, none⟩ = some u) ∧ ∀ y ∈ news, y.oneCell' = true := by
        intro l
        induction l with
        | nil => intro off _ _; exact ⟨[], by simp [Reps], by simp, by simp, by simp⟩
        | cons d l ih =>
          intro off h hok
          simp only [RepL] at h
          obtain ⟨⟨y, h1, h2, h3⟩, h4⟩ := h
          obtain ⟨news, n1, n2, n3, n4⟩ := ih _ h4 fun d' hd' => hok d' (by simp [hd'])
          obtain ⟨q1, q2, q3⟩ := h1.cells' (hok d (by simp))
          refine ⟨y.cells.toList ++ news, ?_, ?_, fun j u hj => ?_, fun z hz => ?_⟩
          · simp only [List.flatMap_cons]; exact q1.append n1
          · simp [h2, n2, Nat.add_mul]; omega
          · rw [List.getElem?_append] at hj
            split at hj
            · exact (h3 j u hj).2
            · rename_i hge
              have := n3 _ u hj
              simp only [Array.length_toList, h2] at hge this
              rwa [show off + e.size + (j - e.size) = off + j by omega] at this
          · rcases List.mem_append.1 hz with hz | hz
            · exact q2 z hz
            · exact n4 z hz
      obtain ⟨news, n1, n2, n3, n4⟩ := key l off hL hok
      exact ⟨news, Src.ofSlice w e2 ⟨k, off, none⟩ l.length cp news n2 (fun j u hj => by rw [Addr.add_plain]; exact n3 j u hj) n4, n1⟩
  · rename_i el hk
    injection hx with hx; injection hx with hx1 hx; injection hx with hx2 hx3; subst hx1; subst hx2; subst hx3
    rw [e3] at hk
    obtain ⟨el', rfl⟩ := TK.of_slc hk
    simp only [Rep] at hr
    obtain ⟨A, rfl⟩ := hr
    refine ⟨[], ?_, by simp [Reps]⟩
    exact ⟨.inl ⟨el', e2⟩, fun _ => rfl, by cases A <;> simp [Builtin.firstCells, loadCells, loadCellsFrom], by cases A <;> simp [Builtin.firstCells, loadCells, loadCellsFrom], by simp, fun _ h => by cases h⟩
  · rename_i el cp hk
    injection hx with hx; injection hx with hx1 hx; injection hx with hx2 hx3; subst hx1; subst hx2; subst hx3
    rw [e3] at hk
    obtain ⟨el', rfl⟩ := TK.of_slc hk
    simp only [Rep] at hr
    rw [hr.1]
    exact ⟨[], Src.ofNil w e2 cp, by simp [Reps]⟩
  · rename_i el k off n cp hk
    split at hx
    · rename_i o hob
      injection hx with hx; injection hx with hx1 hx; injection hx with hx2 hx3; subst hx1; subst hx2; subst hx3
      rw [e3] at hk
      obtain ⟨el', rfl⟩ := TK.of_slc hk
      simp only [Rep] at hr
      rw [hr.1]
      obtain ⟨xs, g1, g2, g3, g4⟩ := (ho k o hob).cells off (n * e.size) hc
      exact ⟨xs, Src.ofSlice w e2 ⟨k, off, none⟩ n cp xs g1 (fun j u hj => by rw [Addr.add_plain]; exact g2 j u hj) g4, g3⟩
    · cases hx
  · rename_i s hk
    injection hx with hx; injection hx with hx1 hx; injection hx with hx2 hx3; subst hx1; subst hx2; subst hx3
    rw [e3] at hk
    have := TK.of_str hk
    subst this
    simp only [Rep] at hr
    rw [hr.1]
    refine ⟨byteCells s, ?_, ?_⟩
    · rw [hc]; exact Src.ofString w e2 s
    · have : ∀ l : List UInt8, Reps w F (l.map byteA) (l.map fun b => Value.int .u8 b.toNat) := by
        intro l
        induction l with
        | nil => simp [Reps]
        | cons b l ih => simp only [List.map_cons, Reps]; exact ⟨_, _, rfl, by simp [byteA, Rep, Value.oneCell'], ih⟩
      exact this _
  · cases hx

theorem Owns.drew {w : World} {F : Frz} {own : Own} (ho : Owns w F own) : Owns w.drew F own :=
  fun k o h => (ho k o h).mono (w' := w.drew) (F' := F) (fun _ _ h => ⟨h, rfl⟩) rfl (fun _ h => h)
theorem WS.drew {w : World} {F : Frz} {own : Own} (hf : WF w F) (ho : Owns w F own) : WS ⟨w, F, own⟩ w.drew F own :=
  ⟨rfl, rfl, rfl, Nat.le_refl _, fun b _ hb => ⟨rfl, hb, fun _ h => h⟩, fun _ _ h => ⟨h, rfl⟩, hf, ho.drew⟩

theorem es_app {P : Program} {o : Oper} {ρ : Operand → AV} {own : Own} {T U : Nat} {s x : Operand} {K : AV → Own → Prop} (h : o.op = .call ⟨.builtin .append, #[s, x], #[T, U]⟩) (hd : appE P T U (ρ s) (ρ x) own K) : ESem P o ρ own K := by
  intro w F ev hf ho hr
  have h1 := hr s (by simp [h, Op.operands, Call.operands])
  have h2 := hr x (by simp [h, Op.operands, Call.operands])
  have key : ∀ v w', (Builtin.append_ #[T, U] o.type #[ev s, ev x]).run P w = .ok v w' → (execOp ev o).run P w = .ok (.value v) w' := fun v w' hv => by
    simp only [execOp, h, resolve, Sem.run_bind, Sem.run_pure, Result.andThen_ok, invoke, builtin]
    have : (#[s, x].map ev) = #[ev s, ev x] := by simp
    rw [this, hv]
    rfl
  generalize ρ s = ds at *
  generalize ρ x = dx at *
  unfold appE at hd
  split at hd
  · rename_i el sz by_ zs u hT hU
    split at hd
    · rename_i e he
      split at hd
      · rename_i c new m hsrc
        obtain ⟨hc, hes, hzl, hd⟩ := hd
        obtain ⟨_, td, _, _, t2, t3, _⟩ := ti_spec hT
        obtain ⟨info', td', z', f1, f2, f3, f4, f5, f6, f7⟩ := ti_spec he
        cases td <;> simp only [TK.of] at t3 <;> first | cases t3 | skip
        obtain ⟨news, hS, hnew⟩ := srcA_src ho hU hsrc hc h2 hes
        have hS' : Src P info'.size U (ev x) m news w := by rw [f4]; exact hS
        -- a new row, whatever the first argument's address
        have grow : ∀ (A : Option Addr) (n cp : Nat) (olds : List Value) (oldA : List AV), ev s = .slice A n cp → (Builtin.firstCells info'.size n (.slice A n cp)).run P w.drew = .ok olds.toArray w.drew → olds.length = n * e.size → Reps w F oldA olds → (∀ y ∈ olds, y.oneCell' = true) →
            cp < n + m → (n + m) * e.bytes ≤ 140737488355328 → n + m ≤ 140737488355328 →
            ∃ c', n + m ≤ c' ∧ ∃ w', (execOp ev o).run P w = .ok (.value (.slice (some ⟨w.heap.size, 0, none⟩) (n + m) c')) w' ∧ ∀ fz, fz ≤ oldA.length → WS ⟨w, F, own⟩ w' F (own.set w.heap.size ⟨el, oldA ++ new, fz, c' * e.size⟩) := by
          intro A n cp olds oldA hev hold hol hor ho1 hlt hb hm
          have hb' : (n + m) * info'.bytes ≤ 140737488355328 := by rw [f5]; exact hb
          have hrun := run_append_grow_src (P := P) w T U o.type el info' z' t2 f1 f6 A n cp olds hold (ev x) m news hS' hlt (by omega) (growslice_fits hlt hb')
          rw [← hev] at hrun
          have hge : n + m ≤ grownCap w (n + m) cp el := grownCap_ge w _ _ _
          refine ⟨grownCap w (n + m) cp el, hge, _, key _ _ hrun, fun fz hfz => ?_⟩
          have hzs : z'.cells.size = e.size := by rw [← hzl, ← f7]; simp
          have hnl : news.length = m * e.size := hS.newsLen
          have hal : (oldA ++ new).length = (n + m) * e.size := by rw [List.length_append, ← hor.length, ← hnew.length, hol, hnl, Nat.add_mul]
          have harr : ((olds ++ news).toArray ++ Builtin.zeroCells z'.cells (grownCap w (n + m) cp el - (n + m))).size = grownCap w (n + m) cp el * e.size := by
            rw [Array.size_append, size_zeroCells, hzs]
            simp only [List.size_toArray, List.length_append, hol, hnl, ← Nat.add_mul]
            congr 1
            omega
          have htake : ((olds ++ news).toArray ++ Builtin.zeroCells z'.cells (grownCap w (n + m) cp el - (n + m))).toList.take (oldA ++ new).length = olds ++ news := by
            rw [Array.toList_append, List.take_append_of_le_length (by rw [hal]; simp [hol, hnl, Nat.add_mul]), List.take_of_length_le (by rw [hal]; simp [hol, hnl, Nat.add_mul])]
          have hd1 := WS.drew hf ho
          have hd2 := WS.push (w := w.drew) hf (Owns.drew ho) ((olds ++ news).toArray ++ Builtin.zeroCells z'.cells (grownCap w (n + m) cp el - (n + m))) ⟨el, oldA ++ new, fz, grownCap w (n + m) cp el * e.size⟩ harr
            (by simp only; rw [hal]; exact Nat.mul_le_mul_right _ hge) (by simp only; rw [htake]; exact Reps.mono (w := w) (w' := w.drew) (F' := F) (fun _ _ h => ⟨h, rfl⟩) _ _ (hor.append hnew))
            (by simp only; rw [htake]; intro y hy; rcases List.mem_append.1 hy with hy | hy; exact ho1 y hy; exact hS.one y hy) (by simp only; rw [List.length_append]; omega)
          exact hd1.trans hd2
        have emp_case : ∀ A, ev s = .slice A 0 0 → m * e.bytes ≤ 140737488355328 ∧ m ≤ 140737488355328 ∧ (m = 0 → K .emp own) ∧ (m ≠ 0 → ∀ k c, own k = none → m ≤ c → K (.raw (.slice (some ⟨k, 0, none⟩) m c)) (own.set k ⟨el, new, 0, c * e.size⟩)) →
            OpRes P o ev w fun v w' => ∃ F' d own', WS ⟨w, F, own⟩ w' F' own' ∧ Rep w' F' d v ∧ K d own' := by
          rintro A hev ⟨hb, hm, hK0, hK1⟩
          by_cases hm0 : m = 0
          · subst hm0
            have hn0 : news = [] := List.eq_nil_of_length_eq_zero (by rw [hS.newsLen]; simp)
            subst hn0
            have hrun : (Builtin.append_ #[T, U] o.type #[ev s, ev x]).run P w = .ok (.slice A 0 0) w := by
              rw [hev]
              rcases hS'.kind with ⟨e', hk⟩ | hk <;> cases A <;> simp [Builtin.append_, Go.run_underlying t2, Go.run_underlying hk, sizeOf, typeInfo, f1, hS'.len, hS'.cells, storeCells]
            unfold OpRes
            rw [key _ _ hrun]
            exact ⟨F, .emp, own, (Ext.refl hf).ws ho, by simp [Rep], hK0 rfl⟩
          · obtain ⟨c', hc', w', hrun, hws⟩ := grow A 0 0 [] [] hev (by cases A <;> simp [Builtin.firstCells, loadCells, loadCellsFrom]) (by simp) (by simp [Reps]) (by simp) (by omega) (by simpa using hb) (by omega)
            unfold OpRes
            rw [hrun]
            simp only [Nat.zero_add]
            have := hws 0 (Nat.zero_le _)
            simp only [List.nil_append] at this
            exact ⟨F, _, _, this, by simp [Rep, Value.oneCell'], hK1 hm0 w.heap.size c' (own_fresh ho) (by omega)⟩
        split at hd
        · simp only [Rep] at h1
          obtain ⟨A, hA⟩ := h1
          exact emp_case A hA hd
        · simp only [Rep] at h1
          exact emp_case none h1.1 hd
        · rename_i k n cp
          split at hd
          · split at hd
            · rename_i ob hob
              obtain ⟨hoT, hfz, hlen, hroom, hcap, hK⟩ := hd
              simp only [Rep] at h1
              obtain ⟨arr, a1, a2, a3, a4, a5, a6, a7⟩ := ho k ob hob
              have hnews : news.length = m * e.size := hS.newsLen
              have hmul : (n + m) * e.size = n * e.size + m * e.size := Nat.add_mul _ _ _
              have hfit : n * e.size + news.length ≤ arr.size := by omega
              have hrun := run_append_room' (P := P) w T U o.type el info' t2 f1 k n cp (ev x) m news hS' hroom (cur := arr) (T := ob.T) a1 (by rw [f4]; exact hfit)
              rw [f4, ← h1.1] at hrun
              unfold OpRes
              rw [key _ _ hrun]
              obtain ⟨cur, hcur⟩ : ∃ cur : Array Value, cur = (arr.toList.take (n * e.size) ++ news ++ arr.toList.drop (n * e.size + news.length)).toArray := ⟨_, rfl⟩
              rw [← hcur]
              have hcl : cur.size = ob.cap := by rw [hcur, ← a2]; simp; omega
              have hnw : new.length = m * e.size := by rw [← hnew.length, hnews]
              have hal : (ob.cs.take (n * e.size) ++ new ++ ob.cs.drop ((n + m) * e.size)).length = ob.cs.length := by
                simp only [List.length_append, List.length_take, List.length_drop, hnw]; omega
              have htake : cur.toList.take ob.cs.length = (arr.toList.take ob.cs.length).take (n * e.size) ++ news ++ (arr.toList.take ob.cs.length).drop ((n + m) * e.size) := by
                rw [hcur]
                simp only
                rw [List.take_append, List.take_of_length_le (l := arr.toList.take (n * e.size) ++ news) (by simp; omega), List.take_take, Nat.min_eq_left (by omega)]
                congr 1
                have hl1 : (arr.toList.take (n * e.size) ++ news).length = (n + m) * e.size := by simp; omega
                rw [hl1, hnews, ← hmul, List.drop_take]
              have hws := WS.put hf ho hob a1 cur ⟨el, ob.cs.take (n * e.size) ++ new ++ ob.cs.drop ((n + m) * e.size), ob.fz, ob.cap⟩ hoT.symm hcl (by simp only; rw [hal]; exact a3)
                (by simp only; rw [hal, htake]; exact ((a4.take _).append hnew).append (a4.drop _))
                (by
                  simp only
                  rw [hal, htake]
                  intro y hy
                  rcases List.mem_append.1 hy with hy | hy
                  · rcases List.mem_append.1 hy with hy | hy
                    · exact a5 y (List.mem_of_mem_take hy)
                    · exact hS.one y hy
                  · exact a5 y (List.mem_of_mem_drop hy))
                (fun i hi => by
                  have := a6 i hi
                  refine ⟨this, ?_⟩
                  rw [hcur]
                  simp only [List.getElem?_toArray]
                  rw [List.getElem?_append_left (by simp; omega), List.getElem?_append_left (by simp; omega), List.getElem?_take, if_pos (by omega)]
                  simp) (by simp only; rw [hal]; exact a7)
              exact ⟨F, _, _, hws, by simp [Rep, Value.oneCell'], hK⟩
            · exact hd.elim
          split at hd
          · rename_i ob hob
            obtain ⟨hoT, hnl, hcap, hb, hm, hK⟩ := hd
            simp only [Rep] at h1
            obtain ⟨arr, a1, a2, a3, a4, a5, a6, a7⟩ := ho k ob hob
            have hnews : news.length = m * e.size := hS.newsLen
            by_cases hroom : n + m ≤ cp
            · have hfit : n * e.size + news.length ≤ arr.size := by
                rw [hnews, a2, hcap, ← Nat.add_mul]; exact Nat.mul_le_mul_right _ hroom
              have hrun := run_append_room' (P := P) w T U o.type el info' t2 f1 k n cp (ev x) m news hS' hroom (cur := arr) (T := ob.T) a1 (by rw [f4]; exact hfit)
              rw [f4, ← h1.1] at hrun
              unfold OpRes
              rw [key _ _ hrun]
              obtain ⟨cur, hcur⟩ : ∃ cur : Array Value, cur = (arr.toList.take (n * e.size) ++ news ++ arr.toList.drop (n * e.size + news.length)).toArray := ⟨_, rfl⟩
              rw [← hcur]
              have hcl : cur.size = ob.cap := by rw [hcur, ← a2]; simp; omega
              have hal : (ob.cs ++ new).length = n * e.size + news.length := by rw [List.length_append, ← hnew.length, hnl]
              have htake : cur.toList.take (ob.cs ++ new).length = arr.toList.take ob.cs.length ++ news := by
                rw [hcur, hal]
                simp only
                rw [List.take_append_of_le_length (by simp; omega), List.take_of_length_le (by simp; omega), hnl]
              have hws := WS.put hf ho hob a1 cur ⟨el, ob.cs ++ new, ob.fz, ob.cap⟩ hoT.symm hcl (by simp only; rw [hal, ← a2]; exact hfit) (by simp only; rw [htake]; exact a4.append hnew)
                (by simp only; rw [htake]; intro y hy; rcases List.mem_append.1 hy with hy | hy; exact a5 y hy; exact hS.one y hy)
                (fun i hi => by
                  have := a6 i hi
                  refine ⟨this, ?_⟩
                  rw [hcur]
                  simp only [List.getElem?_toArray]
                  rw [List.getElem?_append_left (by simp; omega), List.getElem?_append_left (by simp; omega), List.getElem?_take, if_pos (by omega)]
                  simp) (by simp only; rw [List.length_append]; omega)
              have hmv : own.move k k ⟨el, ob.cs ++ new, ob.fz, cp * e.size⟩ = own.set k ⟨el, ob.cs ++ new, ob.fz, ob.cap⟩ := by
                funext j
                simp only [Own.move, Own.set, hcap]
                split <;> rfl
              exact ⟨F, _, _, hmv ▸ hws, by simp [Rep, Value.oneCell'], hK k cp (.inl rfl) hroom⟩
            · have hlt : cp < n + m := by omega
              have hold : (Builtin.firstCells info'.size n (.slice (some ⟨k, 0, none⟩) n cp)).run P w.drew = .ok (arr.toList.take ob.cs.length).toArray w.drew := by
                refine run_firstCells_some w.drew info'.size n _ n cp _ (by rw [f4]; simp; omega) fun j v hj => ?_
                rw [Addr.add_plain, Nat.zero_add]
                rw [List.getElem?_take] at hj
                split at hj
                · show w.cell? _ = _
                  simp only [World.cell?, a1]
                  simpa using hj
                · cases hj
              obtain ⟨c', hc', w', hrun, hws⟩ := grow (some ⟨k, 0, none⟩) n cp _ ob.cs h1.1 hold (by simp; omega) a4 a5 hlt hb hm
              unfold OpRes
              rw [hrun]
              have hws := hws ob.fz a7
              refine ⟨F, _, _, hws.drop fun j q hj => ?_, by simp [Rep, Value.oneCell'], hK w.heap.size c' (.inr (own_fresh ho)) hc'⟩
              simp only [Own.move] at hj
              simp only [Own.set]
              split at hj
              · rename_i hjk; rw [if_pos hjk]; exact hj
              · rename_i hjk
                rw [if_neg hjk]
                split at hj
                · cases hj
                · exact hj
          · exact hd.elim
        · exact hd.elim
      · exact hd.elim
    · exact hd.elim
  · exact hd.elim

/-! ### A slice against nil, where it may be either -/
def eqNilE (P : Program) (op : BinOp) (T : Nat) (x y : AV) (K : AV → Prop) : Prop :=
  match op, ti P T, x, y with
  | .eql, some ⟨.slc _, _, _, _⟩, .lst _ l, .raw (.slice none _ _) => (l = [] → K (.raw (.bool true))) ∧ K (.raw (.bool false))
  | .neq, some ⟨.slc _, _, _, _⟩, .lst _ l, .raw (.slice none _ _) => (l = [] → K (.raw (.bool false))) ∧ K (.raw (.bool true))
  | .eql, some ⟨.slc _, _, _, _⟩, .emp, .raw (.slice none _ _) => K (.raw (.bool true)) ∧ K (.raw (.bool false))
  | .neq, some ⟨.slc _, _, _, _⟩, .emp, .raw (.slice none _ _) => K (.raw (.bool true)) ∧ K (.raw (.bool false))
  | _, _, _, _ => False
theorem es_eqnil {P : Program} {o : Oper} {ρ : Operand → AV} {own : Own} {op : BinOp} {T T' : Nat} {x y : Operand} {K : AV → Own → Prop} (h : o.op = .binOp op T x y T') (hd : eqNilE P op T (ρ x) (ρ y) (fun d => K d own)) : ESem P o ρ own K := by
  intro w F ev hf ho hr
  have h1 := hr x (by simp [h, Op.operands])
  have h2 := hr y (by simp [h, Op.operands])
  have key : ∀ (v : Value), (do eqGuard op T x y (ev x) (ev y); binOp op T (ev x) (ev y) : Sem Value).run P w = .ok v w → (execOp ev o).run P w = .ok (.value v) w := fun v hv => by
    simp only [execOp, h]
    rw [Sem.run_bind, hv]
    rfl
  have fin : ∀ (b : Bool), (execOp ev o).run P w = .ok (.value (.bool b)) w → K (.raw (.bool b)) own → OpRes P o ev w fun v w' => ∃ F' d own', WS ⟨w, F, own⟩ w' F' own' ∧ Rep w' F' d v ∧ K d own' := by
    intro b hb hK
    unfold OpRes
    rw [hb]
    exact ⟨F, _, own, (Ext.refl hf).ws ho, by simp [Rep, Value.oneCell'], hK⟩
  generalize ρ x = dx at *
  generalize ρ y = dy at *
  unfold eqNilE at hd
  split at hd
  · rename_i el sz by_ zs wd l n c hT
    obtain ⟨_, td, _, _, t2, t3, _⟩ := ti_spec hT
    obtain ⟨el', rfl⟩ := TK.of_slc t3.symm
    simp only [Rep] at h1 h2
    obtain ⟨A, cp, e, g1, g2, g3⟩ := h1
    rw [e, h2.1] at key
    cases A with
    | none =>
      have hl : l = [] := by
        by_cases hl : l = []
        · exact hl
        · obtain ⟨k, off, hk, _⟩ := g3 hl; cases hk
      exact fin true (key _ (run_eql (run_equal_sl t2 _ _ _ _ _) rfl rfl).1) (hd.1 hl)
    | some a => exact fin false (key _ (run_eql (run_equal_sl t2 _ _ _ _ _) rfl rfl).1) hd.2
  · rename_i el sz by_ zs wd l n c hT
    obtain ⟨_, td, _, _, t2, t3, _⟩ := ti_spec hT
    obtain ⟨el', rfl⟩ := TK.of_slc t3.symm
    simp only [Rep] at h1 h2
    obtain ⟨A, cp, e, g1, g2, g3⟩ := h1
    rw [e, h2.1] at key
    cases A with
    | none =>
      have hl : l = [] := by
        by_cases hl : l = []
        · exact hl
        · obtain ⟨k, off, hk, _⟩ := g3 hl; cases hk
      exact fin false (key _ (run_eql (run_equal_sl t2 _ _ _ _ _) rfl rfl).2) (hd.1 hl)
    | some a => exact fin true (key _ (run_eql (run_equal_sl t2 _ _ _ _ _) rfl rfl).2) hd.2
  · rename_i el sz by_ zs n c hT
    obtain ⟨_, td, _, _, t2, t3, _⟩ := ti_spec hT
    obtain ⟨el', rfl⟩ := TK.of_slc t3.symm
    simp only [Rep] at h1 h2
    obtain ⟨A, e⟩ := h1
    rw [e, h2.1] at key
    cases A with
    | none => exact fin true (key _ (run_eql (run_equal_sl t2 _ _ _ _ _) rfl rfl).1) hd.1
    | some a => exact fin false (key _ (run_eql (run_equal_sl t2 _ _ _ _ _) rfl rfl).1) hd.2
  · rename_i el sz by_ zs n c hT
    obtain ⟨_, td, _, _, t2, t3, _⟩ := ti_spec hT
    obtain ⟨el', rfl⟩ := TK.of_slc t3.symm
    simp only [Rep] at h1 h2
    obtain ⟨A, e⟩ := h1
    rw [e, h2.1] at key
    cases A with
    | none => exact fin false (key _ (run_eql (run_equal_sl t2 _ _ _ _ _) rfl rfl).2) hd.2
    | some a => exact fin true (key _ (run_eql (run_equal_sl t2 _ _ _ _ _) rfl rfl).2) hd.1
  · exact hd.elim
theorem eqNilE_mono {P : Program} {op : BinOp} {T : Nat} {x y : AV} {K K' : AV → Prop} (h : eqNilE P op T x y K) (hk : ∀ d, K d → K' d) : eqNilE P op T x y K' := by
  unfold eqNilE at *
  split at h <;> first | exact h.elim | exact ⟨fun e => hk _ (h.1 e), hk _ h.2⟩ | exact ⟨hk _ h.1, hk _ h.2⟩
end Go.Proofs.YtghnigbihllnmaaGreat.Hl

/- '==' and '!=' at flat structs. No condition. -/
set_option linter.unusedVariables false
set_option linter.unusedSimpArgs false

namespace Go.Proofs.YtghnigbihllnmaaGreat.Hl
open Go

def eqOk (P : Program) (t : Nat) : Bool := !P.stoodInHeld t && !P.eqGuardType P.depth t
def eqOne : TK → AV → AV → Option (Prop × Bool)
  | .int _, .raw (.int k a), .raw (.int k' b) => some (k = k', decide (a = b))
  | .bool, .raw (.bool a), .raw (.bool b) => some (True, a == b)
  | .str, .raw (.string a), .raw (.string b) => some (True, a.toList == b.toList)
  | _, _, _ => none
def eqFs (rec : Nat → List AV → List AV → Option (Prop × Bool)) (P : Program) : List (Nat × Nat × Bool) → List AV → List AV → Option (Prop × Bool)
  | [], _, _ => some (True, true)
  | (_, _, false) :: r, xs, ys => eqFs rec P r xs ys
  | (off, t, true) :: r, xs, ys => match ti P t with
    | some i => match rec t ((xs.drop off).take i.size) ((ys.drop off).take i.size), eqFs rec P r xs ys with
      | some (c, a), some (c', b) => some (c ∧ c', a && b)
      | _, _ => none
    | none => none
def eqSt (P : Program) : Nat → Nat → List AV → List AV → Option (Prop × Bool)
  | 0, _, _, _ => none
  | n + 1, t, xs, ys => match ti P t with
    | some ⟨.st fs, _, _, _⟩ => match eqFs (eqSt P n) P fs xs ys with
      | some (c, b) => some (eqOk P t = true ∧ c, b)
      | none => none
    | some ⟨k, _, _, _⟩ => match xs, ys with
      | [x], [y] => eqOne k x y
      | _, _ => none
    | none => none

def pkV (agg : Bool) (us : List Value) : Value := if agg then .agg us.toArray else us.headD undef
theorem run_part {P : Program} {w : World} {t off : Nat} {i : TI} {xs : List Value} (hi : ti P t = some i) (h : i.k.agg = false → off < xs.length ∧ i.size ≠ 0) :
    (part t xs.toArray off).run P w = .ok (pkV i.k.agg ((xs.drop off).take i.size)) w := by
  obtain ⟨info, td, z, e1, e2, e3, e4, e5, e6, e7⟩ := ti_spec hi
  simp only [part, Sem.run_bind, run_isAgg e2, ← e3, Result.andThen_ok]
  cases ha : i.k.agg with
  | true =>
    simp only [if_true, Sem.run_bind, run_sizeOf e1, Result.andThen_ok, Sem.run_pure, e4, List.extract_toArray, pkV]
    congr 3
    rw [List.extract_eq_take_drop]; congr 1; omega
  | false =>
    obtain ⟨hlt, hs⟩ := h ha
    obtain ⟨m, hm⟩ : ∃ m, i.size = m + 1 := ⟨i.size - 1, by omega⟩
    have e : (xs.drop off).take i.size = xs[off] :: (xs.drop (off + 1)).take m := by rw [List.drop_eq_getElem_cons hlt, hm, List.take_succ_cons]
    rw [e]
    simp only [pkV, Bool.false_eq_true, if_false, List.headD, List.getElem?_toArray, List.getElem?_eq_getElem hlt, Sem.run_pure]

theorem eqOne_sound {P : Program} {w : World} {F : Frz} {t d : Nat} {i : TI} {x y : AV} {c : Prop} {b : Bool} {u v : Value} (hi : ti P t = some i) (h : eqOne i.k x y = some (c, b)) (hc : c) (hu : Rep w F x u) (hv : Rep w F y v) :
    (Op.equalIn (d + 1) t u v).run P w = .ok b w := by
  obtain ⟨info, td, z, e1, e2, e3, e4, e5, e6, e7⟩ := ti_spec hi
  rw [e3] at h
  unfold eqOne at h
  split at h
  · rename_i k0 k a k' b' hk
    injection h with h; injection h with h1 h2; subst h1; subst h2; subst hc
    have := TK.of_int hk
    subst this
    simp only [Rep] at hu hv
    rw [hu.1, hv.1, run_equalIn_int w d t k _ a b' e2]
    congr 1
  · rename_i a b' hk
    injection h with h; injection h with h1 h2; subst h1; subst h2
    have := TK.of_bool hk
    subst this
    simp only [Rep] at hu hv
    rw [hu.1, hv.1, run_equalIn_bool' w d t a b' e2]
  · rename_i a b' hk
    injection h with h; injection h with h1 h2; subst h1; subst h2
    have := TK.of_str hk
    subst this
    simp only [Rep] at hu hv
    rw [hu.1, hv.1, run_equalIn_string w d t a b' e2]
  · cases h

theorem eqSt_sound {P : Program} {w : World} {F : Frz} : ∀ (n t : Nat) (xs ys : List AV) (c : Prop) (b : Bool) (d : Nat) (us vs : List Value) (i : TI), eqSt P n t xs ys = some (c, b) → c → n ≤ d → ti P t = some i → Reps w F xs us → Reps w F ys vs →
    (Op.equalIn d t (pkV i.k.agg us) (pkV i.k.agg vs)).run P w = .ok b w
  | 0, t, xs, ys, c, b, d, us, vs, i, h, hc, hd, hi, hu, hv => by simp [eqSt] at h
  | n + 1, t, xs, ys, c, b, d, us, vs, i, h, hc, hd, hi, hu, hv => by
    obtain ⟨d', rfl⟩ : ∃ d', d = d' + 1 := ⟨d - 1, by omega⟩
    have IH := eqSt_sound (P := P) (w := w) (F := F) n
    unfold eqSt at h
    rw [hi] at h
    split at h
    · rename_i fs sz by_ zs he
      injection he with he
      subst he
      split at h
      · rename_i c' b' hf
        injection h with h; injection h with h1 h2; subst h1; subst h2
        obtain ⟨info, td, z, e1, e2, e3, e4, e5, e6, e7⟩ := ti_spec hi
        obtain ⟨hok, hc⟩ := hc
        have hst : P.stoodInHeld t = false := by
          unfold eqOk at hok
          cases hs : P.stoodInHeld t
          · rfl
          · rw [hs] at hok; cases hok
        simp only at e3
        cases td <;> simp only [TK.of] at e3 <;> first | cases e3 | skip
        rename_i fl
        have hfl : P.fieldsOf t = fl := by simp [Program.fieldsOf, e2]
        simp only [TK.agg, pkV, if_true]
        rw [run_equalIn_struct w d' t _ _ (by rw [hfl]; exact e2) hst, hfl]
        clear e2 hfl hi hok hst e4 e5 e6 e7 e1
        generalize fl.toList = l at *
        induction l generalizing c' b' with
        | nil =>
          simp only [List.map_nil, eqFs] at hf
          injection hf with hf; injection hf with h1 h2; subst h2
          simp [Op.eqFields]
        | cons f l ih =>
          simp only [List.map_cons] at hf
          by_cases hn : f.name = "_"
          · have : (f.name != "_") = false := by simp [hn]
            rw [this] at hf
            simp only [eqFs] at hf
            simp only [Op.eqFields, hn, ne_eq, not_true_eq_false, if_false]
            exact ih c' b' hc hf
          · have : (f.name != "_") = true := by simp [hn]
            rw [this] at hf
            simp only [eqFs] at hf
            split at hf
            · rename_i j hj
              split at hf
              · rename_i c1 a1 c2 a2 ha1 ha2
                injection hf with hf; injection hf with h1 h2; subst h1; subst h2
                obtain ⟨hc1, hc2⟩ := hc
                have key : j.k.agg = false → f.offset < us.length ∧ f.offset < vs.length ∧ j.size ≠ 0 := by
                  intro hag
                  cases n with
                  | zero => simp [eqSt] at ha1
                  | succ n =>
                    unfold eqSt at ha1
                    rw [hj] at ha1
                    split at ha1
                    · rename_i fs2 _ _ _ he2
                      injection he2 with he2
                      rw [he2] at hag
                      cases hag
                    · rename_i he2
                      split at ha1
                      · rename_i x y hx hy
                        have lx := congrArg List.length hx
                        have ly := congrArg List.length hy
                        simp only [List.length_take, List.length_drop, List.length_singleton] at lx ly
                        have := hu.length
                        have := hv.length
                        refine ⟨by omega, by omega, by omega⟩
                      · cases ha1
                    · cases ha1
                have p1 := run_part (w := w) (xs := us) (off := f.offset) hj fun h => ⟨(key h).1, (key h).2.2⟩
                have p2 := run_part (w := w) (xs := vs) (off := f.offset) hj fun h => ⟨(key h).2.1, (key h).2.2⟩
                have q := IH f.type _ _ c1 a1 d' _ _ j ha1 hc1 (by omega) hj ((hu.drop f.offset).take j.size) ((hv.drop f.offset).take j.size)
                simp only [Op.eqFields, hn, ne_eq, not_false_eq_true, if_true, Sem.run_bind, p1, p2, q, Result.andThen_ok]
                cases a1
                · simp
                · simp only [Bool.not_true, Bool.false_eq_true, if_false, Bool.true_and]
                  exact ih c2 a2 hc2 ha2
              · cases hf
            · cases hf
      · cases h
    · rename_i k sz by_ zs hk he
      injection he with he
      subst he
      split at h
      · rename_i x y
        simp only [Reps] at hu hv
        obtain ⟨u, _, rfl, hu, rfl⟩ := hu
        obtain ⟨v, _, rfl, hv, rfl⟩ := hv
        have hag : k.agg = false := by
          unfold eqOne at h
          split at h <;> first | rfl | cases h
        simp only [pkV, hag, Bool.false_eq_true, if_false, List.headD]
        exact eqOne_sound hi h hc hu hv
      · cases h
    · rename_i he
      cases he

def eqStV (P : Program) (op : BinOp) (T : Nat) (xs ys : List AV) : Option (Prop × AV) := match ti P T with
  | some ⟨.st _, _, _, _⟩ => match op, eqSt P 6 T xs ys with
    | .eql, some (c, b) => some (eqOk P T = true ∧ c, .raw (.bool b))
    | .neq, some (c, b) => some (eqOk P T = true ∧ c, .raw (.bool (!b)))
    | _, _ => none
  | _ => none
theorem vs_eqst {P : Program} {o : Oper} {ρ : Operand → AV} {own : Own} {op : BinOp} {T T' : Nat} {x y : Operand} {xs ys : List AV} {c : Prop} {d : AV} (h : o.op = .binOp op T x y T') (hx : ρ x = .st xs) (hy : ρ y = .st ys)
    (hd : eqStV P op T xs ys = some (c, d)) (hc : c) : VSem P o ρ own d := by
  refine VSem.of_run fun w F ev _ _ hr => ?_
  have h1 := hr x (by simp [h, Op.operands])
  have h2 := hr y (by simp [h, Op.operands])
  rw [hx] at h1
  rw [hy] at h2
  simp only [Rep] at h1 h2
  obtain ⟨us, eu, hu, _⟩ := h1
  obtain ⟨vs, ev', hv, _⟩ := h2
  unfold eqStV at hd
  split at hd
  · rename_i fs sz by_ zs hi
    have main : ∀ c b, eqSt P 6 T xs ys = some (c, b) → c → eqOk P T = true → (eqGuard op T x y (ev x) (ev y)).run P w = .ok () w ∧ (Op.equalIn 10000 T (ev x) (ev y)).run P w = .ok b w := by
      intro c b hb hc hok
      have hg : P.eqGuardType P.depth T = false := by
        unfold eqOk at hok
        cases hs : P.eqGuardType P.depth T
        · rfl
        · rw [hs] at hok; simp at hok
      rw [eu, ev']
      exact ⟨run_eqGuard_agg w op T x y _ _ hg, eqSt_sound 6 T xs ys c b 10000 us vs _ hb hc (by decide) hi hu hv⟩
    split at hd
    · rename_i c' b hb
      injection hd with hd; injection hd with q1 q2; subst q1; subst q2
      obtain ⟨m1, m2⟩ := main _ _ hb hc.2 hc.1
      refine ⟨.bool b, ?_, by simp [Rep, Value.oneCell']⟩
      simp only [execOp, h]
      rw [Sem.run_bind, Sem.run_bind, m1, Result.andThen_ok, eu, ev', run_eql_struct]
      rw [eu, ev'] at m2
      rw [m2]
      rfl
    · rename_i c' b hb
      injection hd with hd; injection hd with q1 q2; subst q1; subst q2
      obtain ⟨m1, m2⟩ := main _ _ hb hc.2 hc.1
      refine ⟨.bool (!b), ?_, by simp [Rep, Value.oneCell']⟩
      simp only [execOp, h]
      rw [Sem.run_bind, Sem.run_bind, m1, Result.andThen_ok, eu, ev', run_neq_struct]
      rw [eu, ev'] at m2
      rw [m2]
      rfl
    · cases hd
  · cases hd
end Go.Proofs.YtghnigbihllnmaaGreat.Hl

/- One function that says what an operation comes to, calls by contract, and states of a frame. No condition. -/
set_option linter.unusedVariables false
set_option linter.unusedSimpArgs false

namespace Go.Proofs.YtghnigbihllnmaaGreat.Hl
open Go

/-! ### Operations that write nothing: value and condition -/
def pvBin (P : Program) (b : BinOp) (T : Nat) (x y : AV) : Option (Prop × AV) :=
  match x, y with
  | .raw a, .raw c => match binV b a c with
    | some (p, v) => some (p, .raw v)
    | none => match ti P T with
      | some i => match binE b i.k x y with
        | some d => some (True, d)
        | none => none
      | none => none
  | .st xs, .st ys => eqStV P b T xs ys
  | _, _ => match ti P T with
    | some i => match binE b i.k x y with
      | some d => some (True, d)
      | none => none
    | none => none
def pvUn (op : UnOp) (x : AV) : Option (Prop × AV) :=
  match x with
  | .raw a => match unV op a with
    | some v => some (True, .raw v)
    | none => none
  | _ => none
def pvConv (P : Program) (s t : Nat) (x : AV) (own : Own) : Option (Prop × AV) :=
  match convA P s t x with
  | some r => some r
  | none => strA P s t x own
def pvLoad (P : Program) (T : Nat) (x : AV) (own : Own) : Option (Prop × AV) :=
  match ti P T with
  | some i => loadA i x own
  | none => none
def trueA (x : Option AV) : Option (Prop × AV) := match x with
  | some d => some (True, d)
  | none => none
def pvFaddr (P : Program) (S f : Nat) (x : AV) : Option (Prop × AV) := match fi P S f with
  | some q => faddrA q x
  | none => none
def pvField (P : Program) (S f : Nat) (x : AV) : Option (Prop × AV) := match fi P S f with
  | some q => fieldA q x
  | none => none
def pvIaddr (P : Program) (T : Nat) (x i : AV) : Option (Prop × AV) := match ti P T with
  | some t => match ti P (elemOfK t.k) with
    | some e => iaddrA t.k e.size x i
    | none => none
  | none => none
/-- An element of an array that is a value. -/
def idxA (len : Nat) (q : TI) (x i : AV) : Option (Prop × AV) := match x, i with
  | .st cs, .raw (.int _ n) => some ((0 ≤ n ∧ n < len) ∧ subOk ⟨n.toNat * q.size, q.size, q.k.agg⟩ cs, subA ⟨n.toNat * q.size, q.size, q.k.agg⟩ cs)
  | _, _ => none
def pvIndex (P : Program) (T : Nat) (x i : AV) : Option (Prop × AV) := match ti P T with
  | some t => match t.k with
    | .arr len e => match ti P e with
      | some q => idxA len q x i
      | none => none
    | k => indexA k x i
  | none => none
def pvSlice (P : Program) (T : Nat) (x : AV) (lo hi mx : Option AV) : Option (Prop × AV) := match ti P T with
  | some t => match t.k with
    | .str => sliceA .str 0 x lo hi mx
    | k => match ti P (elemOfK k) with
      | some e => match mx, hi with
        | some _, none => none
        | _, _ => sliceA k e.size x lo hi mx
      | none => none
  | none => none
def pvLen (P : Program) (T : Nat) (x : AV) : Option (Prop × AV) := match ti P T with
  | some t => trueA (lenA t.k x)
  | none => none
def pvPick (c a b : AV) : Option (Prop × AV) := match c with
  | .raw (.bool t) => some (True, pickA t a b)
  | _ => none
def pvCall (P : Program) (b : Builtin) (args : List AV) (ts : List Nat) : Option (Prop × AV) := match b, args, ts with
  | .len, [x], [T] => pvLen P T x
  | .min, [x, y], _ => trueA (mmA false x y)
  | .max, [x, y], _ => trueA (mmA true x y)
  | _, _, _ => none

def pv (P : Program) (mu : Bool) (op : Op) (ρ : Operand → AV) (own : Own) : Option (Prop × AV) :=
  match op with
  | .move x => some (True, ρ x)
  | .assign x => some (True, ρ x)
  | .pick c a b => pvPick (ρ c) (ρ a) (ρ b)
  | .binOp b T x y _ => pvBin P b T (ρ x) (ρ y)
  | .unOp o _ x => pvUn o (ρ x)
  | .convert s t x => pvConv P s t (ρ x) own
  | .load T x => pvLoad P T (ρ x) own
  | .nilCheck x => trueA (nilA (ρ x))
  | .fieldAddr S x f => pvFaddr P S f (ρ x)
  | .field S x f => pvField P S f (ρ x)
  | .indexAddr T x i => pvIaddr P T (ρ x) (ρ i)
  | .index T x i => pvIndex P T (ρ x) (ρ i)
  | .slice T x lo hi mx => pvSlice P T (ρ x) (lo.map ρ) (hi.map ρ) (mx.map ρ)
  | .extract x i => trueA (extractA (ρ x) i)
  | .build S parts => buildV P S (parts.toList.map fun p => (p.1, ρ p.2))
  | .box T x => match mu with
    | true => none
    | false => some (True, .ref (ρ x))
  | .buildSlice T n parts => match mu with
    | true => none
    | false => bsA P T n (parts.toList.map fun p => (p.1, ρ p.2))
  | .makeFunc fn a b => some (True, .clo fn (a.toList.map ρ) (b.toList.map ρ))
  | .call ⟨.builtin b, args, ts⟩ => pvCall P b (args.toList.map ρ) ts.toList
  | _ => none

theorem vs_idx {P : Program} {o : Oper} {ρ : Operand → AV} {own : Own} {T len e : Nat} {x ix : Operand} {i q : TI} {c : Prop} {d : AV} (h : o.op = .index T x ix) (hi : ti P T = some i) (hk : i.k = .arr len e) (hq : ti P e = some q)
    (hd : idxA len q (ρ x) (ρ ix) = some (c, d)) (hc : c) : VSem P o ρ own d := by
  obtain ⟨info, td, z, e1, e2, e3, e4, e5, e6, e7⟩ := ti_spec hi
  obtain ⟨info', td', z', f1, f2, f3, f4, f5, f6, f7⟩ := ti_spec hq
  refine VSem.of_run fun w F ev hf ho hr => ?_
  have h1 := hr x (by simp [h, Op.operands])
  have h2 := hr ix (by simp [h, Op.operands])
  generalize ρ x = dx at *
  generalize ρ ix = dix at *
  unfold idxA at hd
  split at hd
  · rename_i cs kk n
    injection hd with hd; injection hd with hd1 hd2; subst hd1; subst hd2
    obtain ⟨hin, hc⟩ := hc
    simp only [Rep] at h1 h2
    obtain ⟨xs, ex, hx, h1x⟩ := h1
    refine ⟨_, ?_, hx.sub h1x hc⟩
    obtain ⟨c1, c2, c3⟩ := hc
    have hl := hx.length
    rw [e3] at hk
    cases td <;> simp only [TK.of] at hk <;> (try cases hk)
    simp only [execOp, h, Instr.index, Sem.run_bind, h2.1, asIntOf, Sem.run_pure, Result.andThen_ok, run_underlying e2, ex, run_sizeOf f1, f4]
    rw [if_pos hin]
    simp only [Sem.run_bind, run_sizeOf f1, Result.andThen_ok, f4, part, run_isAgg f2, ← f3]
    cases ha : q.k.agg with
    | true =>
      simp only [if_true, Sem.run_bind, run_sizeOf f1, Result.andThen_ok, Sem.run_pure, f4, List.extract_toArray]
      congr 4
      rw [List.extract_eq_take_drop]; congr 1; omega
    | false =>
      have h1' : q.size = 1 := c3 ha
      have hlt : n.toNat * q.size < xs.length := by simp only at c1; omega
      rw [h1'] at hlt ⊢
      simp at hlt
      simp [hlt, take_one_drop]
  · cases hd
theorem pvBin_sound {P : Program} {o : Oper} {ρ : Operand → AV} {own : Own} {b : BinOp} {T T' : Nat} {x y : Operand} {c : Prop} {d : AV} (h : o.op = .binOp b T x y T') (hd : pvBin P b T (ρ x) (ρ y) = some (c, d)) (hc : c) : VSem P o ρ own d := by
  have aux : ∀ {i : TI}, ti P T = some i → (match binE b i.k (ρ x) (ρ y) with | some d => some (True, d) | none => none) = some (c, d) → VSem P o ρ own d := by
    intro i hi hq
    split at hq
    · rename_i d' hd'
      injection hq with hq; injection hq with _ hq; subst hq
      exact vs_binE h hi hd'
    · cases hq
  have aux2 : (match ti P T with | some i => (match binE b i.k (ρ x) (ρ y) with | some d => some (True, d) | none => none) | none => none) = some (c, d) → VSem P o ρ own d := by
    intro hq
    split at hq
    · rename_i i hi; exact aux hi hq
    · cases hq
  unfold pvBin at hd
  split at hd
  · rename_i a e ha he
    split at hd
    · rename_i p v hv
      injection hd with hd; injection hd with hd1 hd2; subst hd1; subst hd2
      exact vs_bin h ha he hv hc
    · exact aux2 hd
  · rename_i xs ys hx hy
    exact vs_eqst h hx hy hd hc
  · exact aux2 hd

theorem pv_sound {P : Program} {mu : Bool} {o : Oper} {ρ : Operand → AV} {own : Own} {c : Prop} {d : AV} (hd : pv P mu o.op ρ own = some (c, d)) (hc : c) : VSem P o ρ own d := by
  cases h : o.op <;> simp only [h, pv] at hd
  case move x => injection hd with hd; injection hd with _ hd; subst hd; exact vs_move h
  case assign x => injection hd with hd; injection hd with _ hd; subst hd; exact vs_assign h
  case pick x a b =>
    unfold pvPick at hd
    split at hd
    · rename_i t ht
      injection hd with hd; injection hd with _ hd; subst hd; exact vs_pick h ht
    · cases hd
  case binOp b T x y T' => exact pvBin_sound h hd hc
  case unOp op T x =>
    unfold pvUn at hd
    split at hd
    · rename_i a ha
      split at hd
      · rename_i v hv
        injection hd with hd; injection hd with _ hd; subst hd; exact vs_un h ha hv
      · cases hd
    · cases hd
  case convert s t x =>
    unfold pvConv at hd
    split at hd
    · rename_i r hr
      injection hd with hd
      subst hd
      exact vs_conv h hr hc
    · exact vs_str h hd hc
  case load T x =>
    unfold pvLoad at hd
    split at hd
    · rename_i i hi; exact vs_load h hi hd hc
    · cases hd
  case nilCheck x =>
    unfold trueA at hd
    split at hd
    · rename_i d' hd'
      injection hd with hd; injection hd with _ hd; subst hd; exact vs_nil h hd'
    · cases hd
  case fieldAddr S x f =>
    unfold pvFaddr at hd
    split at hd
    · rename_i q hq; exact vs_faddr h hq hd hc
    · cases hd
  case field S x f =>
    unfold pvField at hd
    split at hd
    · rename_i q hq; exact vs_field h hq hd hc
    · cases hd
  case indexAddr T x i =>
    unfold pvIaddr at hd
    split at hd
    · rename_i t ht
      split at hd
      · rename_i e he; exact vs_iaddr h ht he hd hc
      · cases hd
    · cases hd
  case index T x i =>
    unfold pvIndex at hd
    split at hd
    · rename_i t ht
      split at hd
      · rename_i len e hk
        split at hd
        · rename_i q hq; exact vs_idx h ht hk hq hd hc
        · cases hd
      · exact vs_index h ht hd hc
    · cases hd
  case slice T x lo hi mx =>
    unfold pvSlice at hd
    split at hd
    · rename_i t ht
      split at hd
      · rename_i hk
        have hd' : sliceA t.k ((⟨.other, 0, 0, []⟩ : TI).size) (ρ x) (lo.map ρ) (hi.map ρ) (mx.map ρ) = some (c, d) := by rw [hk]; exact hd
        refine vs_slice (e := ⟨.other, 0, 0, []⟩) h ht (.inr hk) hd' hc fun hm => ?_
        cases mx with
        | none => cases hm
        | some m =>
          unfold sliceA at hd
          split at hd
          · split at hd
            · rename_i e; cases e
            · cases hd
          · rename_i e _; cases e
          · rename_i e _; cases e
          · cases hd
      · split at hd
        · rename_i e he
          split at hd
          · cases hd
          · rename_i hne
            refine vs_slice h ht (.inl he) hd hc fun hm => ?_
            cases mx with
            | none => cases hm
            | some m => cases hi with
              | none => exact absurd rfl (hne _ rfl)
              | some _ => rfl
        · cases hd
    · cases hd
  case extract x i =>
    unfold trueA at hd
    split at hd
    · rename_i d' hd'
      injection hd with hd; injection hd with _ hd; subst hd; exact vs_extract h hd'
    · cases hd
  case build S parts => exact vs_build h hd hc
  case box T x =>
    cases mu
    · injection hd with hd; injection hd with _ hd; subst hd; exact vs_box h
    · cases hd
  case buildSlice T n parts =>
    cases mu
    · exact vs_bslice h hd hc
    · cases hd
  case makeFunc fn a b => injection hd with hd; injection hd with _ hd; subst hd; exact vs_func h
  case call cl =>
    obtain ⟨callee, args, ts⟩ := cl
    cases callee with
    | builtin b =>
      simp only at hd
      have harr1 : ∀ {x : Operand}, args.toList = [x] → args = #[x] := fun h => by apply Array.ext'; simpa using h
      have harr2 : ∀ {x y : Operand}, args.toList = [x, y] → args = #[x, y] := fun h => by apply Array.ext'; simpa using h
      unfold pvCall at hd
      split at hd
      · rename_i x T hx hT
        obtain ⟨y, hy, rfl⟩ := List.map_eq_singleton_iff.1 hx
        have hT' : ts = #[T] := by apply Array.ext'; simpa using hT
        unfold pvLen at hd
        split at hd
        · rename_i t ht
          unfold trueA at hd
          split at hd
          · rename_i d' hd'
            injection hd with hd; injection hd with _ hd; subst hd
            exact vs_len (by rw [h, harr1 hy, hT']) ht hd'
          · cases hd
        · cases hd
      · rename_i x y hx
        obtain ⟨a, l, ha, rfl, hl⟩ := List.map_eq_cons_iff.1 hx
        obtain ⟨b', hb, rfl⟩ := List.map_eq_singleton_iff.1 hl
        subst hb
        unfold trueA at hd
        split at hd
        · rename_i d' hd'
          injection hd with hd; injection hd with _ hd; subst hd
          exact vs_min (by rw [h, harr2 ha]) hd'
        · cases hd
      · rename_i x y hx
        obtain ⟨a, l, ha, rfl, hl⟩ := List.map_eq_cons_iff.1 hx
        obtain ⟨b', hb, rfl⟩ := List.map_eq_singleton_iff.1 hl
        subst hb
        unfold trueA at hd
        split at hd
        · rename_i d' hd'
          injection hd with hd; injection hd with _ hd; subst hd
          exact vs_max (by rw [h, harr2 ha]) hd'
        · cases hd
      · cases hd
    | value f => cases hd
    | invoke r m => cases hd
  all_goals cases hd

/-! ### Calls by contract -/
def CallRes (P : Program) (f : Nat) (args : Array Value) (w : World) (R : Value → World → Prop) : Prop :=
  match (callFunc f args).run P w with
  | .ok (.value v) w' => R v w'
  | .ok (.enter f args) w' => Calls P f args w' fun e w'' => ∃ v, e = .returned v ∧ R v w''
  | _ => False
theorem CallRes.mono {P : Program} {f : Nat} {args : Array Value} {w : World} {R R' : Value → World → Prop} (h : CallRes P f args w R) (hr : ∀ v w', R v w' → R' v w') : CallRes P f args w R' := by
  unfold CallRes at *
  split at h <;> first | exact hr _ _ h | (exact h.mono fun e w'' he => by obtain ⟨v, e1, h1⟩ := he; exact ⟨v, e1, hr _ _ h1⟩) | exact h.elim

/-- What a call comes to. -/
def AC (P : Program) (f : Nat) (args : List AV) (own : Own) (K : AV → Own → Prop) : Prop :=
  ∀ w F vs, WF w F → Owns w F own → Reps w F args vs → CallRes P f vs.toArray w fun v w' => ∃ F' d own', WS ⟨w, F, own⟩ w' F' own' ∧ Rep w' F' d v ∧ K d own'
theorem AC.mono {P : Program} {f : Nat} {args : List AV} {own : Own} {K K' : AV → Own → Prop} (h : AC P f args own K) (hk : ∀ d own', K d own' → K' d own') : AC P f args own K' :=
  fun w F vs hf ho hr => (h w F vs hf ho hr).mono fun v w' ⟨F', d, own', a, b, c⟩ => ⟨F', d, own', a, b, hk _ _ c⟩
/-- A call that writes nothing of the caller's. -/
def PC (P : Program) (f : Nat) (args : List AV) (d : AV) : Prop :=
  ∀ w F vs, WF w F → Reps w F args vs → CallRes P f vs.toArray w fun v w' => ∃ F', Ext w F w' F' ∧ Rep w' F' d v
theorem PC.ac {P : Program} {f : Nat} {args : List AV} {d : AV} (h : PC P f args d) {own : Own} {K : AV → Own → Prop} (hk : K d own) : AC P f args own K :=
  fun w F vs hf ho hr => (h w F vs hf hr).mono fun v w' ⟨F', a, b⟩ => ⟨F', d, own, a.ws ho, b, hk⟩

/-- Values and objects seen in a weaker way (the world does not move; more may be frozen). -/
def Weak (own : Own) (args : List AV) (own' : Own) (args' : List AV) : Prop :=
  ∀ w F vs, WF w F → Owns w F own → Reps w F args vs → ∃ F', WS ⟨w, F, own⟩ w F' own' ∧ Reps w F' args' vs
theorem Weak.refl (own : Own) (args : List AV) : Weak own args own args :=
  fun w F vs hf ho hr => ⟨F, (Ext.refl hf).ws ho, hr⟩
theorem Weak.trans {own own1 own2 : Own} {a a1 a2 : List AV} (h : Weak own a own1 a1) (h' : Weak own1 a1 own2 a2) : Weak own a own2 a2 :=
  fun w F vs hf ho hr => by
    obtain ⟨F1, h1, r1⟩ := h w F vs hf ho hr
    obtain ⟨F2, h2, r2⟩ := h' w F1 vs h1.wf h1.owns r1
    exact ⟨F2, h1.trans h2, r2⟩
theorem AC.weak {P : Program} {f : Nat} {args args' : List AV} {own own' : Own} {K : AV → Own → Prop} (hw : Weak own args own' args') (h : AC P f args' own' K) : AC P f args own K :=
  fun w F vs hf ho hr => by
    obtain ⟨F1, h1, r1⟩ := hw w F vs hf ho hr
    exact (h w F1 vs h1.wf h1.owns r1).mono fun v w' ⟨F', d, o', a, b, c⟩ => ⟨F', d, o', h1.trans a, b, c⟩

/-- Holds a continuation back from the symbolic run. -/
abbrev HoldK (K : AV → Own → Prop) : Type := Unit
/-- A call, its arguments seen in a weaker way first. -/
def ACs (P : Program) (f : Nat) (args : List AV) (own : Own) (K : AV → Own → Prop) (_ : HoldK K := ()) : Prop := AC P f args own K
theorem ACs.pure {P : Program} {f : Nat} {args : List AV} {d : AV} {own : Own} {K : AV → Own → Prop} {hK : HoldK K} (h : PC P f args d) (hk : K d own) : ACs P f args own K hK := h.ac hk
theorem ACs.of {P : Program} {f : Nat} {args : List AV} {own : Own} {K : AV → Own → Prop} {hK : HoldK K} (h : AC P f args own K) : ACs P f args own K hK := h
theorem ACs.weak {P : Program} {f : Nat} {args args' : List AV} {own own' : Own} {K : AV → Own → Prop} {hK hK' : HoldK K} (hw : Weak own args own' args') (h : ACs P f args' own' K hK') : ACs P f args own K hK := AC.weak hw h

theorem es_call {P : Program} {o : Oper} {ρ : Operand → AV} {own : Own} {fo : Operand} {args : Array Operand} {ts : Array Nat} {f : Nat} {first cap : List AV} {K : AV → Own → Prop} (h : o.op = .call ⟨.value fo, args, ts⟩) (hf' : ρ fo = .clo (.func f) first cap)
    (hd : ACs P f (first ++ args.toList.map ρ ++ cap) own K) : ESem P o ρ own K := by
  intro w F ev hf ho hr
  have h1 := hr fo (by simp [h, Op.operands, Call.operands])
  rw [hf'] at h1
  simp only [Rep] at h1
  obtain ⟨xs, ys, e, hx, hy⟩ := h1
  have hargs : Reps w F (args.toList.map ρ) (args.toList.map ev) := Reps.map_ev fun x hx => hr x (by simp only [h, Op.operands, Call.operands]; simp at hx ⊢; exact .inr hx)
  have := hd w F _ hf ho ((hx.append hargs).append hy)
  unfold OpRes
  have hrun : (execOp ev o).run P w = (callFunc f (xs ++ args.toList.map ev ++ ys).toArray).run P w := by
    simp only [execOp, h, resolve, e, Deferred.ofValue, Sem.run_bind, Sem.run_pure, Result.andThen_ok, invoke]
    congr 2
    apply Array.ext'
    simp
  rw [hrun]
  unfold CallRes at this
  split at this
  · rename_i v w' e; rw [e]; exact this
  · rename_i g as w' e; rw [e]; exact this
  · exact this.elim

def callE (P : Program) (o : Oper) (ρ : Operand → AV) (f : AV) (args : List AV) (own : Own) (K : AV → Own → Prop) : Prop := match f with
  | .clo (.func f) first cap => ACs P f (first ++ args ++ cap) own K
  | _ => ESem P o ρ own K

/-- '==' at structs by a contract of its own, a slice against nil. -/
def binE' (P : Program) (o : Oper) (ρ : Operand → AV) (own : Own) (b : BinOp) (T : Nat) (x y : AV) (K : AV → Own → Prop) : Prop := match x with
  | .lst _ _ => eqNilE P b T x y fun d => K d own
  | .emp => eqNilE P b T x y fun d => K d own
  | _ => ESem P o ρ own K

/-! ### Any operation -/
def effE (P : Program) (o : Oper) (ρ : Operand → AV) (own : Own) (K : AV → Own → Prop) : Prop :=
  match o.op with
  | .alloc T => allocE P T own K
  | .box T x => boxE T (ρ x) own K
  | .buildSlice T n parts => bsE P T n (parts.toList.map fun p => (p.1, ρ p.2)) own K
  | .makeSlice T n c => makeE P T (ρ n) (ρ c) own K
  | .store T a x => storeE P T (ρ a) (ρ x) own K
  | .binOp b T x y _ => binE' P o ρ own b T (ρ x) (ρ y) K
  | .call ⟨.builtin .append, args, ts⟩ => match args.toList, ts.toList with
    | [s, x], [T, U] => appE P T U (ρ s) (ρ x) own K
    | _, _ => ESem P o ρ own K
  | .call ⟨.value f, args, _⟩ => callE P o ρ (ρ f) (args.toList.map ρ) own K
  | _ => ESem P o ρ own K
def eff (P : Program) (mu : Bool) (o : Oper) (ρ : Operand → AV) (own : Own) (K : AV → Own → Prop) : Prop :=
  match pv P mu o.op ρ own with
  | some (c, d) => c ∧ K d own
  | none => effE P o ρ own K

theorem effE_sound {P : Program} {o : Oper} {ρ : Operand → AV} {own : Own} {K : AV → Own → Prop} (hd : effE P o ρ own K) : ESem P o ρ own K := by
  unfold effE at hd
  split at hd
  · rename_i T h; exact es_alloc h hd
  · rename_i T x h; exact es_box h hd
  · rename_i T n parts h; exact es_bslice h hd
  · rename_i T n c h; exact es_make h hd
  · rename_i T a x h; exact es_store h hd
  · rename_i b T x y T' h
    unfold binE' at hd
    split at hd
    · exact es_eqnil h hd
    · exact es_eqnil h hd
    · exact hd
  · rename_i args ts h
    split at hd
    · rename_i s x T U ha ht
      refine es_app ?_ hd
      rw [h]
      congr 2
      · apply Array.ext'; simpa using ha
      · apply Array.ext'; simpa using ht
    · exact hd
  · rename_i f args ts h
    unfold callE at hd
    split at hd
    · rename_i g first cap hg; exact es_call h hg hd
    · exact hd
  · exact hd
theorem eff_sound {P : Program} {mu : Bool} {o : Oper} {ρ : Operand → AV} {own : Own} {K : AV → Own → Prop} (hd : eff P mu o ρ own K) : ESem P o ρ own K := by
  unfold eff at hd
  split at hd
  · rename_i c d h; exact ESem.of_V (pv_sound h hd.1) hd.2
  · exact effE_sound hd

theorem pv_congr {P : Program} {mu : Bool} {op : Op} {ρ ρ' : Operand → AV} {own : Own} (h : ∀ x ∈ op.operands, ρ' x = ρ x) : pv P mu op ρ' own = pv P mu op ρ own := by
  cases op <;> simp only [Op.operands] at h <;> simp only [pv]
  case build T parts =>
    congr 1
    refine List.map_congr_left fun p hp => ?_
    rw [h p.2 (by simp only [List.mem_toArray, List.mem_map]; exact ⟨p, hp, rfl⟩)]
  case buildSlice T n parts =>
    have : (parts.toList.map fun p => (p.1, ρ' p.2)) = parts.toList.map fun p => (p.1, ρ p.2) := by
      refine List.map_congr_left fun p hp => ?_
      rw [h p.2 (by simp only [List.mem_toArray, List.mem_map]; exact ⟨p, hp, rfl⟩)]
    rw [this]
  case makeFunc fn a b =>
    have h1 : a.toList.map ρ' = a.toList.map ρ := List.map_congr_left fun x hx => h x (by simp at hx ⊢; exact .inl hx)
    have h2 : b.toList.map ρ' = b.toList.map ρ := List.map_congr_left fun x hx => h x (by simp at hx ⊢; exact .inr hx)
    rw [h1, h2]
  case slice T x lo hi mx =>
    have h0 : ρ' x = ρ x := h x (by simp)
    have h1 : lo.map ρ' = lo.map ρ := by cases lo with | none => rfl | some y => simp [h y (by simp)]
    have h2 : hi.map ρ' = hi.map ρ := by cases hi with | none => rfl | some y => simp [h y (by simp)]
    have h3 : mx.map ρ' = mx.map ρ := by cases mx with | none => rfl | some y => simp [h y (by simp)]
    rw [h0, h1, h2, h3]
  case call c =>
    obtain ⟨callee, args, ts⟩ := c
    cases callee with
    | builtin b =>
      have h1 : args.toList.map ρ' = args.toList.map ρ := List.map_congr_left fun x hx => h x (by simp [Call.operands] at hx ⊢; exact hx)
      simp only [h1]
    | value f => rfl
    | invoke r m => rfl
  all_goals first
    | rfl
    | (rw [h _ (by simp)]; done)
    | (rw [h _ (by simp), h _ (by simp)]; done)
    | (rename_i x y z; rw [h x (by simp), h y (by simp), h z (by simp)]; done)
    | (rename_i a x y; rw [h x (by simp), h y (by simp)]; done)
    | (rename_i b a x y e; rw [h x (by simp), h y (by simp)]; done)
    | (rename_i a x; rw [h x (by simp)]; done)
theorem ESem.congr_iff {P : Program} {o : Oper} {ρ ρ' : Operand → AV} {own : Own} {K : AV → Own → Prop} (he : ∀ x ∈ o.op.operands, ρ' x = ρ x) : ESem P o ρ' own K = ESem P o ρ own K :=
  propext ⟨fun h => h.congr fun x hx => (he x hx).symm, fun h => h.congr he⟩
theorem effE_congr {P : Program} {o : Oper} {ρ ρ' : Operand → AV} {own : Own} {K : AV → Own → Prop} (h : ∀ x ∈ o.op.operands, ρ' x = ρ x) : effE P o ρ' own K = effE P o ρ own K := by
  have hE := ESem.congr_iff (P := P) (own := own) (K := K) h
  unfold effE
  cases ho : o.op <;> simp only [ho, Op.operands] at h <;> first | exact hE | skip
  case alloc T => rfl
  case box T x => dsimp only; rw [h x (by simp)]
  case buildSlice T n parts =>
    have : (parts.toList.map fun p => (p.1, ρ' p.2)) = parts.toList.map fun p => (p.1, ρ p.2) := by
      refine List.map_congr_left fun p hp => ?_
      rw [h p.2 (by simp only [List.mem_toArray, List.mem_map]; exact ⟨p, hp, rfl⟩)]
    dsimp only
    rw [this]
  case makeSlice T n c => dsimp only; rw [h n (by simp), h c (by simp)]
  case store T a x => dsimp only; rw [h a (by simp), h x (by simp)]
  case binOp b T x y T' =>
    dsimp only
    rw [h x (by simp), h y (by simp)]
    unfold binE'
    split <;> first | rfl | exact hE
  case call c =>
    obtain ⟨callee, args, ts⟩ := c
    cases callee with
    | builtin b =>
      cases b <;> first | exact hE | skip
      dsimp only
      split
      · rename_i s x T U ha ht
        have e1 : args = #[s, x] := by apply Array.ext'; simpa using ha
        subst e1
        rw [h s (by simp [Call.operands]), h x (by simp [Call.operands])]
      · exact hE
    | value f =>
      have h1 : args.toList.map ρ' = args.toList.map ρ := List.map_congr_left fun x hx => h x (by simp [Call.operands] at hx ⊢; exact .inr hx)
      have h2 : ρ' f = ρ f := h f (by simp [Call.operands])
      simp only [h1, h2, callE]
      split
      · rfl
      · exact hE
    | invoke r m => exact hE
theorem eff_congr {P : Program} {mu : Bool} {o : Oper} {ρ ρ' : Operand → AV} {own : Own} {K : AV → Own → Prop} (h : ∀ x ∈ o.op.operands, ρ' x = ρ x) : eff P mu o ρ' own K = eff P mu o ρ own K := by
  unfold eff
  rw [pv_congr h, effE_congr h]
end Go.Proofs.YtghnigbihllnmaaGreat.Hl
