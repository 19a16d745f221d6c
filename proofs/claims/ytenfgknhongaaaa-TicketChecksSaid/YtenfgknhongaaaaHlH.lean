/- Rules for the symbolic run that look at no continuation before it is reached. No condition. -/
import Derived.Test.YtenfgknhongaaaaHl10
set_option linter.unusedVariables false
set_option linter.unusedSimpArgs false

namespace Go.Proofs.Ytenfgknhongaaaa.Hl
open Go
section
variable {P : Program} {M : List Nat} {ops : Array Oper} {own : Own}

/-! ### Code -/
def condH (x : AV) (A B : Prop) (_ : HoldP A := ()) (_ : HoldP B := ()) : Prop := match x with
  | .raw (.bool t) => Br t A B
  | _ => False
theorem condH_bool {t : Bool} {A B : Prop} {hA : HoldP A} {hB : HoldP B} : condH (.raw (.bool t)) A B hA hB = Br t A B := propext Iff.rfl
theorem wpC_skip {Q : Exit → St → Prop} {s : St} : wpC P M .skip Q s = Q .normal s := by simp only [wpC]
theorem wpC_drawn {id : Nat} {ops : Array Oper} {Q : Exit → St → Prop} {s : St} : wpC P M (.region id ops true) Q s = AW P (.region id ops true) Q s := by simp only [wpC]
theorem wpC_region {id : Nat} {ops : Array Oper} {Q : Exit → St → Prop} {s : St} : wpC P M (.region id ops false) Q s = wpL P M ops ops.toList s (Q .normal) := by simp only [wpC]
theorem wpC_seq {a b : Code} {Q : Exit → St → Prop} {s : St} : wpC P M (.seq a b) Q s = wpC P M a (thenA (wpC P M b Q) Q) s := by simp only [wpC]
theorem wpC_cond {c : Operand} {a b : Code} {Q : Exit → St → Prop} {s : St} : wpC P M (.cond c a b) Q s = condH (s.ev c) (wpC P M a Q s) (wpC P M b Q s) := by
  simp only [wpC]; exact propext Iff.rfl
theorem wpC_block {id : Nat} {b : Code} {Q : Exit → St → Prop} {s : St} : wpC P M (.block id b) Q s = wpC P M b (inBlockA id Q) s := by simp only [wpC]
theorem wpC_exit {id : Nat} {Q : Exit → St → Prop} {s : St} : wpC P M (.exit id) Q s = Q (.exit id) s := by simp only [wpC]
theorem wpC_ret {Q : Exit → St → Prop} {s : St} : wpC P M .ret Q s = Q .ret s := by simp only [wpC]
theorem wpC_loop {c : Code} {Q : Exit → St → Prop} {s : St} : wpC P M (.loop c) Q s = AW P (.loop c) Q s := by simp only [wpC]

/-! ### Operations -/
def stGh (P : Program) (M : List Nat) (ops : Array Oper) (o : Oper) (tg : Tg) (s : St) (K : St → Prop) (_ : HoldS K := ()) : Prop := stG P M ops o tg s K
def stEh (P : Program) (mu : Bool) (o : Oper) (tg : Tg) (ρ : Operand → AV) (own : Own) (K : AV → Own → Prop) (_ : HoldK K := ()) : Prop := stE P mu o tg ρ own K
theorem wpL_nilH {s : St} {K : St → Prop} : wpL P M ops [] s K = K s := propext Iff.rfl
theorem wpL_consH {o : Oper} {rest : List Oper} {s : St} {K : St → Prop} : wpL P M ops (o :: rest) s K = stGh P M ops o .e s (fun s' => wpL P M ops rest s' K) := propext Iff.rfl
theorem wpD_nilH {s : St} {K : St → Prop} : wpD P M ops [] s K = K s := propext Iff.rfl
theorem wpD_consH {j : Nat} {o : Oper} {tg : Tg} {rest : List Item'} {s : St} {K : St → Prop} : wpD P M ops ((j, o, tg) :: rest) s K = stGh P M ops o tg s (fun s' => wpD P M ops rest s' K) := propext Iff.rfl
def guardH (x : AV) (want : Bool) (A B : Prop) (_ : HoldP A := ()) (_ : HoldP B := ()) : Prop := match x with
  | .raw (.bool t) => BrG t want A B
  | _ => False
theorem guardH_true {t : Bool} {A B : Prop} {hA : HoldP A} {hB : HoldP B} : guardH (.raw (.bool t)) true A B hA hB = Br t A B := propext Iff.rfl
theorem guardH_false {t : Bool} {A B : Prop} {hA : HoldP A} {hB : HoldP B} : guardH (.raw (.bool t)) false A B hA hB = Br t B A := propext Iff.rfl
theorem stGh_none {dst : Option Nat} {op : Op} {ty : Nat} {pos : String} {after} {tg : Tg} {s : St} {K : St → Prop} {h : HoldS K} :
    stGh P M ops ⟨dst, op, ty, pos, after, none⟩ tg s K h = stEh P (muOf M dst) ⟨dst, op, ty, pos, after, none⟩ tg s.ev s.own (fun d own' => s.puts dst d own' K) := propext Iff.rfl
theorem stGh_some {dst : Option Nat} {op : Op} {ty : Nat} {pos : String} {after} {j : Nat} {want : Bool} {tg : Tg} {s : St} {K : St → Prop} {h : HoldS K} :
    stGh P M ops ⟨dst, op, ty, pos, after, some (j, want)⟩ tg s K h = guardH (gv ops s j) want (stEh P (muOf M dst) ⟨dst, op, ty, pos, after, some (j, want)⟩ tg s.ev s.own (fun d own' => s.puts dst d own' K)) (s.puts dst .any s.own K) := propext Iff.rfl
def effM (x : Option (Prop × AV)) (own : Own) (K : AV → Own → Prop) (alt : Prop) (_ : HoldK K := ()) (_ : HoldP alt := ()) : Prop := match x with
  | some (c, d) => c ∧ K d own
  | none => alt
theorem effM_some {c : Prop} {d : AV} {K : AV → Own → Prop} {alt : Prop} {hK : HoldK K} {hA : HoldP alt} : effM (some (c, d)) own K alt hK hA = (c ∧ K d own) := propext Iff.rfl
theorem effM_none {K : AV → Own → Prop} {alt : Prop} {hK : HoldK K} {hA : HoldP alt} : effM none own K alt hK hA = alt := propext Iff.rfl
/-- An operation that makes or writes memory, or calls. -/
def effEh (P : Program) (o : Oper) (ρ : Operand → AV) (own : Own) (K : AV → Own → Prop) (_ : HoldK K := ()) : Prop := effE P o ρ own K
section
variable {mu : Bool} {dst : Option Nat} {op : Op} {ty : Nat} {pos : String} {after : Array Edge} {g : Option (Nat × Bool)} {ρ : Operand → AV} {K : AV → Own → Prop} {h : HoldK K}
theorem stEh_v : stEh P mu ⟨dst, op, ty, pos, after, g⟩ .v ρ own K h = effM (pv P mu op ρ noOwn) own K False := by
  simp only [stEh, stE]; cases pv P mu op ρ noOwn <;> rfl
theorem stEh_r : stEh P mu ⟨dst, op, ty, pos, after, g⟩ .r ρ own K h = effM (pv P mu op ρ own) own K False := by
  simp only [stEh, stE]; cases pv P mu op ρ own <;> rfl
theorem stEh_c {d : AV} : stEh P mu ⟨dst, op, ty, pos, after, g⟩ (.c d) ρ own K h = (VSem P ⟨dst, op, ty, pos, after, g⟩ ρ noOwn d ∧ K d own) := propext Iff.rfl
theorem stEh_e : stEh P mu ⟨dst, op, ty, pos, after, g⟩ .e ρ own K h = effM (pv P mu op ρ own) own K (effEh P ⟨dst, op, ty, pos, after, g⟩ ρ own K) := by
  simp only [stEh, stE, eff]; cases pv P mu op ρ own <;> rfl

/-! ### Operations that make or write memory -/
def allocH (i : Option TI) (T : Nat) (own : Own) (K : AV → Own → Prop) (_ : HoldK K := ()) : Prop := match i with
  | some i => i.zero.all (·.oneCell') = true ∧ ∀ k, own k = none → K (.raw (.pointer (some ⟨k, 0, none⟩))) (own.set k ⟨T, i.zero.map .raw, 0, i.zero.length⟩)
  | none => False
theorem allocH_some {i : TI} {T : Nat} : allocH (some i) T own K h = (i.zero.all (·.oneCell') = true ∧ ∀ k, own k = none → K (.raw (.pointer (some ⟨k, 0, none⟩))) (own.set k ⟨T, i.zero.map .raw, 0, i.zero.length⟩)) := propext Iff.rfl
theorem effE_alloc {T : Nat} : effEh P ⟨dst, .alloc T, ty, pos, after, g⟩ ρ own K h = allocH (ti P T) T own K := by
  simp only [effEh, effE, allocE, allocH]; cases ti P T <;> rfl
def boxH (T : Nat) (x : AV) (cs : List AV) (own : Own) (K : AV → Own → Prop) (_ : HoldK K := ()) : Prop :=
  okA x ∧ ∀ k, own k = none → K (.raw (.pointer (some ⟨k, 0, none⟩))) (own.set k ⟨T, cs, 0, cs.length⟩)
theorem effE_box {T : Nat} {x : Operand} : effEh P ⟨dst, .box T x, ty, pos, after, g⟩ ρ own K h = boxH T (ρ x) (cellsA (ρ x)) own K := propext Iff.rfl
theorem boxH_eq {T : Nat} {x : AV} {cs : List AV} : boxH T x cs own K h = (okA x ∧ ∀ k, own k = none → K (.raw (.pointer (some ⟨k, 0, none⟩))) (own.set k ⟨T, cs, 0, cs.length⟩)) := propext Iff.rfl
def bsH2 (e : Option TI) (el n : Nat) (parts : List (Nat × AV)) (own : Own) (K : AV → Own → Prop) (_ : HoldK K := ()) : Prop := match e with
  | some e => partsOk e n 0 parts ∧ n * e.size ≤ 16777216 ∧ ∀ k, own k = none → K (.raw (.slice (some ⟨k, 0, none⟩) n n)) (own.set k ⟨el, parts.flatMap (fun p => cellsA p.2), 0, n * e.size⟩)
  | none => False
theorem bsH2_some {e : TI} {el n : Nat} {parts : List (Nat × AV)} : bsH2 (some e) el n parts own K h = (partsOk e n 0 parts ∧ n * e.size ≤ 16777216 ∧ ∀ k, own k = none → K (.raw (.slice (some ⟨k, 0, none⟩) n n)) (own.set k ⟨el, parts.flatMap (fun p => cellsA p.2), 0, n * e.size⟩)) := propext Iff.rfl
def bsH (P : Program) (i : Option TI) (n : Nat) (parts : List (Nat × AV)) (own : Own) (K : AV → Own → Prop) (_ : HoldK K := ()) : Prop := match i with
  | some ⟨.slc el, _, _, _⟩ => bsH2 (ti P el) el n parts own K
  | _ => False
theorem bsH_some {el a b n : Nat} {z : List Value} {parts : List (Nat × AV)} : bsH P (some ⟨.slc el, a, b, z⟩) n parts own K h = bsH2 (ti P el) el n parts own K := propext Iff.rfl
theorem effE_bslice {T n : Nat} {parts : Array (Nat × Operand)} : effEh P ⟨dst, .buildSlice T n parts, ty, pos, after, g⟩ ρ own K h = bsH P (ti P T) n (parts.toList.map fun p => (p.1, ρ p.2)) own K := by
  show bsE P T n _ own K = _
  exact propext Iff.rfl
def storeH3 (o : Option OB) (i : Option TI) (k off : Nat) (x : AV) (own : Own) (K : AV → Own → Prop) (_ : HoldK K := ()) : Prop := match o, i with
  | some o, some i => fitA i x ∧ off + i.size ≤ o.cs.length ∧ o.fz ≤ off ∧ K .any (own.set k { o with cs := putA i.k.agg off x o.cs })
  | _, _ => False
theorem storeH3_some {T : Nat} {cs : List AV} {fz cap : Nat} {i : TI} {k off : Nat} {x : AV} : storeH3 (some ⟨T, cs, fz, cap⟩) (some i) k off x own K h = (fitA i x ∧ off + i.size ≤ cs.length ∧ fz ≤ off ∧ K .any (own.set k ⟨T, putA i.k.agg off x cs, fz, cap⟩)) := propext Iff.rfl
def storeH (P : Program) (T : Nat) (a x : AV) (own : Own) (K : AV → Own → Prop) (_ : HoldK K := ()) : Prop := match a with
  | .raw (.pointer (some ⟨k, off, none⟩)) => storeH3 (own k) (ti P T) k off x own K
  | _ => False
theorem storeH_ptr {T k off : Nat} {x : AV} : storeH P T (.raw (.pointer (some ⟨k, off, none⟩))) x own K h = storeH3 (own k) (ti P T) k off x own K := propext Iff.rfl
theorem effE_store {T : Nat} {a x : Operand} : effEh P ⟨dst, .store T a x, ty, pos, after, g⟩ ρ own K h = storeH P T (ρ a) (ρ x) own K := by
  show storeE P T (ρ a) (ρ x) own K = _
  exact propext Iff.rfl
def makeH2 (e : Option TI) (el : Nat) (n c : Int) (own : Own) (K : AV → Own → Prop) (_ : HoldK K := ()) : Prop := match e with
  | some e => e.zero.all (·.oneCell') = true ∧ e.zero.length = e.size ∧ 0 ≤ n ∧ n ≤ c ∧ c * e.bytes ≤ 281474976710656 ∧ c ≤ 281474976710656 ∧
        ∀ k, own k = none → K (.raw (.slice (some ⟨k, 0, none⟩) n.toNat c.toNat)) (own.set k ⟨el, (List.replicate n.toNat (e.zero.map AV.raw)).flatten, 0, c.toNat * e.size⟩)
  | none => False
theorem makeH2_some {e : TI} {el : Nat} {n c : Int} : makeH2 (some e) el n c own K h = (e.zero.all (·.oneCell') = true ∧ e.zero.length = e.size ∧ 0 ≤ n ∧ n ≤ c ∧ c * e.bytes ≤ 281474976710656 ∧ c ≤ 281474976710656 ∧
        ∀ k, own k = none → K (.raw (.slice (some ⟨k, 0, none⟩) n.toNat c.toNat)) (own.set k ⟨el, (List.replicate n.toNat (e.zero.map AV.raw)).flatten, 0, c.toNat * e.size⟩)) := propext Iff.rfl
def makeH (P : Program) (i : Option TI) (n c : AV) (own : Own) (K : AV → Own → Prop) (_ : HoldK K := ()) : Prop := match i, n, c with
  | some ⟨.slc el, _, _, _⟩, .raw (.int _ n), .raw (.int _ c) => makeH2 (ti P el) el n c own K
  | _, _, _ => False
theorem makeH_some {el a b : Nat} {z : List Value} {k1 k2 : IntKind} {n c : Int} : makeH P (some ⟨.slc el, a, b, z⟩) (.raw (.int k1 n)) (.raw (.int k2 c)) own K h = makeH2 (ti P el) el n c own K := propext Iff.rfl
theorem effE_make {T : Nat} {n c : Operand} : effEh P ⟨dst, .makeSlice T n c, ty, pos, after, g⟩ ρ own K h = makeH P (ti P T) (ρ n) (ρ c) own K := by
  show makeE P T (ρ n) (ρ c) own K = _
  exact propext Iff.rfl
def binH (P : Program) (o : Oper) (ρ : Operand → AV) (own : Own) (b : BinOp) (T : Nat) (x y : AV) (K : AV → Own → Prop) (_ : HoldK K := ()) : Prop := binE' P o ρ own b T x y K
theorem effE_bin {b : BinOp} {T T' : Nat} {x y : Operand} : effEh P ⟨dst, .binOp b T x y T', ty, pos, after, g⟩ ρ own K h = binH P ⟨dst, .binOp b T x y T', ty, pos, after, g⟩ ρ own b T (ρ x) (ρ y) K := propext Iff.rfl
theorem binH_lst {o : Oper} {b : BinOp} {T wd : Nat} {l : List AV} {y : AV} : binH P o ρ own b T (.lst wd l) y K h = eqNilE P b T (.lst wd l) y fun d => K d own := propext Iff.rfl
theorem binH_emp {o : Oper} {b : BinOp} {T : Nat} {y : AV} : binH P o ρ own b T .emp y K h = eqNilE P b T .emp y fun d => K d own := propext Iff.rfl
def callH (P : Program) (o : Oper) (ρ : Operand → AV) (f : AV) (args : List AV) (own : Own) (K : AV → Own → Prop) (_ : HoldK K := ()) : Prop := callE P o ρ f args own K
theorem effE_call {f : Operand} {args : Array Operand} {ts : Array Nat} : effEh P ⟨dst, .call ⟨.value f, args, ts⟩, ty, pos, after, g⟩ ρ own K h = callH P ⟨dst, .call ⟨.value f, args, ts⟩, ty, pos, after, g⟩ ρ (ρ f) (args.toList.map ρ) own K := propext Iff.rfl
theorem callH_clo {o : Oper} {f : Nat} {first cap args : List AV} : callH P o ρ (.clo (.func f) first cap) args own K h = ACs P f (first ++ args ++ cap) own K := propext Iff.rfl

/-! ### append -/
def appH5 (o : Option OB) (el : Nat) (e : TI) (new : List AV) (m k n c : Nat) (own : Own) (K : AV → Own → Prop) (_ : HoldK K := ()) : Prop := match o with
  | some o => o.T = el ∧ n * e.size = o.cs.length ∧ o.cap = c * e.size ∧ (n + m) * e.bytes ≤ 140737488355328 ∧ n + m ≤ 140737488355328 ∧
              ∀ k' c', (k' = k ∨ own k' = none) → n + m ≤ c' → K (.raw (.slice (some ⟨k', 0, none⟩) (n + m) c')) (own.move k k' ⟨el, o.cs ++ new, o.fz, c' * e.size⟩)
  | none => False
theorem appH5_some {T : Nat} {cs : List AV} {fz cap el : Nat} {e : TI} {new : List AV} {m k n c : Nat} : appH5 (some ⟨T, cs, fz, cap⟩) el e new m k n c own K h = (T = el ∧ n * e.size = cs.length ∧ cap = c * e.size ∧ (n + m) * e.bytes ≤ 140737488355328 ∧ n + m ≤ 140737488355328 ∧
              ∀ k' c', (k' = k ∨ own k' = none) → n + m ≤ c' → K (.raw (.slice (some ⟨k', 0, none⟩) (n + m) c')) (own.move k k' ⟨el, cs ++ new, fz, c' * e.size⟩)) := propext Iff.rfl
def appH6 (o : Option OB) (el : Nat) (e : TI) (new : List AV) (m k n c : Nat) (own : Own) (K : AV → Own → Prop) (_ : HoldK K := ()) : Prop := match o with
  | some o => o.T = el ∧ o.fz ≤ n * e.size ∧ (n + m) * e.size ≤ o.cs.length ∧ n + m ≤ c ∧ o.cap = c * e.size ∧
              K (.raw (.slice (some ⟨k, 0, none⟩) (n + m) c)) (own.set k ⟨el, o.cs.take (n * e.size) ++ new ++ o.cs.drop ((n + m) * e.size), o.fz, o.cap⟩)
  | none => False
theorem appH6_some {T : Nat} {cs : List AV} {fz cap el : Nat} {e : TI} {new : List AV} {m k n c : Nat} : appH6 (some ⟨T, cs, fz, cap⟩) el e new m k n c own K h = (T = el ∧ fz ≤ n * e.size ∧ (n + m) * e.size ≤ cs.length ∧ n + m ≤ c ∧ cap = c * e.size ∧
              K (.raw (.slice (some ⟨k, 0, none⟩) (n + m) c)) (own.set k ⟨el, cs.take (n * e.size) ++ new ++ cs.drop ((n + m) * e.size), fz, cap⟩)) := propext Iff.rfl
def appH4 (rb : Bool) (el : Nat) (e : TI) (new : List AV) (m : Nat) (s : AV) (own : Own) (K : AV → Own → Prop) (_ : HoldK K := ()) : Prop := match s with
  | .emp => m * e.bytes ≤ 140737488355328 ∧ m ≤ 140737488355328 ∧ Arm (m = 0) (K .emp own) ∧ Arm (m ≠ 0) (∀ k c, own k = none → m ≤ c → K (.raw (.slice (some ⟨k, 0, none⟩) m c)) (own.set k ⟨el, new, 0, c * e.size⟩))
  | .raw (.slice none 0 0) => m * e.bytes ≤ 140737488355328 ∧ m ≤ 140737488355328 ∧ Arm (m = 0) (K .emp own) ∧ Arm (m ≠ 0) (∀ k c, own k = none → m ≤ c → K (.raw (.slice (some ⟨k, 0, none⟩) m c)) (own.set k ⟨el, new, 0, c * e.size⟩))
  | .raw (.slice (some ⟨k, 0, none⟩) n c) => match rb with
    | true => appH6 (own k) el e new m k n c own K
    | false => appH5 (own k) el e new m k n c own K
  | _ => False
theorem appH4_emp {rb : Bool} {el : Nat} {e : TI} {new : List AV} {m : Nat} : appH4 rb el e new m .emp own K h = (m * e.bytes ≤ 140737488355328 ∧ m ≤ 140737488355328 ∧ Arm (m = 0) (K .emp own) ∧ Arm (m ≠ 0) (∀ k c, own k = none → m ≤ c → K (.raw (.slice (some ⟨k, 0, none⟩) m c)) (own.set k ⟨el, new, 0, c * e.size⟩))) := propext Iff.rfl
theorem appH4_nil {rb : Bool} {el : Nat} {e : TI} {new : List AV} {m : Nat} : appH4 rb el e new m (.raw (.slice none 0 0)) own K h = (m * e.bytes ≤ 140737488355328 ∧ m ≤ 140737488355328 ∧ Arm (m = 0) (K .emp own) ∧ Arm (m ≠ 0) (∀ k c, own k = none → m ≤ c → K (.raw (.slice (some ⟨k, 0, none⟩) m c)) (own.set k ⟨el, new, 0, c * e.size⟩))) := propext Iff.rfl
theorem appH4_row {el : Nat} {e : TI} {new : List AV} {m k n c : Nat} : appH4 false el e new m (.raw (.slice (some ⟨k, 0, none⟩) n c)) own K h = appH5 (own k) el e new m k n c own K := propext Iff.rfl
theorem appH4_rowR {el : Nat} {e : TI} {new : List AV} {m k n c : Nat} : appH4 true el e new m (.raw (.slice (some ⟨k, 0, none⟩) n c)) own K h = appH6 (own k) el e new m k n c own K := propext Iff.rfl
def appH3 (rb : Bool) (x : Option (Prop × List AV × Nat)) (el : Nat) (e : TI) (s : AV) (own : Own) (K : AV → Own → Prop) (_ : HoldK K := ()) : Prop := match x with
  | some (c, new, m) => c ∧ e.size ≠ 0 ∧ e.zero.length = e.size ∧ appH4 rb el e new m s own K
  | none => False
theorem appH3_some {rb : Bool} {c : Prop} {new : List AV} {m el : Nat} {e : TI} {s : AV} : appH3 rb (some (c, new, m)) el e s own K h = (c ∧ e.size ≠ 0 ∧ e.zero.length = e.size ∧ appH4 rb el e new m s own K) := propext Iff.rfl
def appH2 (e : Option TI) (u : TK) (el : Nat) (s x : AV) (own : Own) (K : AV → Own → Prop) (_ : HoldK K := ()) : Prop := match e with
  | some e => appH3 (rowB x) (srcA u e.size x own) el e s own K
  | none => False
theorem appH2_some {e : TI} {u : TK} {el : Nat} {s x : AV} : appH2 (some e) u el s x own K h = appH3 (rowB x) (srcA u e.size x own) el e s own K := propext Iff.rfl
def appH (P : Program) (i u : Option TI) (s x : AV) (own : Own) (K : AV → Own → Prop) (_ : HoldK K := ()) : Prop := match i, u with
  | some ⟨.slc el, _, _, _⟩, some u => appH2 (ti P el) u.k el s x own K
  | _, _ => False
theorem appH_some {el a b : Nat} {z : List Value} {u : TI} {s x : AV} : appH P (some ⟨.slc el, a, b, z⟩) (some u) s x own K h = appH2 (ti P el) u.k el s x own K := propext Iff.rfl
theorem effE_append {s x : Operand} {T U : Nat} : effEh P ⟨dst, .call ⟨.builtin .append, #[s, x], #[T, U]⟩, ty, pos, after, g⟩ ρ own K h = appH P (ti P T) (ti P U) (ρ s) (ρ x) own K := by
  show appE P T U (ρ s) (ρ x) own K = _
  exact propext Iff.rfl

/-! ### The end of a body -/
def endH (x : Option (Prop × List AV)) (own : Own) (K : AV → Own → Prop) (_ : HoldK K := ()) : Prop := match x with
  | some (c, ds) => c ∧ K (tupA ds) own
  | none => False
theorem endH_some {c : Prop} {ds : List AV} : endH (some (c, ds)) own K h = (c ∧ K (tupA ds) own) := propext Iff.rfl
theorem endA_H {rs : List ResultVar} {s : St} : endA P rs K s = endH (resAs P s rs) s.own K := by
  simp only [endA, endH]; cases resAs P s rs <;> rfl
end
end
end Go.Proofs.Ytenfgknhongaaaa.Hl
