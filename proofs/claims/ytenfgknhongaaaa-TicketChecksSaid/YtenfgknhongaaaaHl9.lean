/- States of a frame, code, loops, regions in any order, bodies. No condition. -/
import Derived.Test.YtenfgknhongaaaaHl8
import Derived.Deep.LoopGhost
set_option linter.unusedVariables false
set_option linter.unusedSimpArgs false

namespace Go.Proofs.Ytenfgknhongaaaa.Hl
open Go

structure St where
  n : Nat
  tm : Nat → AV
  own : Own
def upd (f : Nat → AV) (t : Nat) (d : AV) (j : Nat) : AV := if j = t then d else f j
theorem upd_same (f : Nat → AV) (t : Nat) (d : AV) : upd f t d t = d := if_pos rfl
theorem upd_ne (f : Nat → AV) {t j : Nat} (d : AV) (h : j ≠ t) : upd f t d j = f j := if_neg h
theorem upd_comm (f : Nat → AV) {t u : Nat} (d e : AV) (h : t ≠ u) : upd (upd f t d) u e = upd (upd f u e) t d := by
  funext j
  simp only [upd]
  split <;> split <;> first | rfl | (exfalso; omega)

def constA (v : Value) : AV := match v with
  | .agg _ | .tuple _ => .any
  | v => .raw v
def St.ev (s : St) : Operand → AV
  | .tmp t => s.tm t
  | .const v => constA v
  | .global g => .raw (.pointer (some ⟨g, 0, none⟩))
  | .func f => .clo (.func f) [] []
/-- Holds a continuation back from the symbolic run. -/
abbrev HoldS (K : St → Prop) : Type := Unit
def St.puts (s : St) (dst : Option Nat) (d : AV) (own : Own) (K : St → Prop) (_ : HoldS K := ()) : Prop := match dst with
  | none => K ⟨s.n, s.tm, own⟩
  | some t => t < s.n ∧ K ⟨s.n, upd s.tm t d, own⟩

structure RepSt (B : Base) (s : St) (a : Act) (w : World) (F : Frz) : Prop where
  ws : WS B w F s.own
  size : a.tmps.size = s.n
  defers : a.defers = []
  tm : ∀ t, Rep w F (s.tm t) (a.tmps.getD t undef)

theorem RepSt.ev {B : Base} {s : St} {a : Act} {w : World} {F : Frz} (h : RepSt B s a w F) (x : Operand) : Rep w F (s.ev x) (a.eval x) := by
  cases x with
  | tmp t => exact h.tm t
  | const v => simp only [St.ev, Act.eval]; cases v <;> simp [constA, Rep, Value.oneCell']
  | global g => simp [St.ev, Act.eval, Rep, Value.oneCell']
  | func f => simp [St.ev, Act.eval, Rep, Reps]

theorem RepSt.put {B : Base} {s : St} {a : Act} {w w' : World} {F F' : Frz} {own' : Own} (h : RepSt B s a w F) (hw : WS ⟨w, F, s.own⟩ w' F' own') {d : AV} {v : Value} (hv : Rep w' F' d v) {dst : Option Nat} {K : St → Prop} (hk : s.puts dst d own' K) :
    ∃ s', RepSt B s' (a.put dst v) w' F' ∧ K s' := by
  cases dst with
  | none => exact ⟨⟨s.n, s.tm, own'⟩, ⟨h.ws.trans hw, h.size, h.defers, fun t => Rep.mono hw.kept _ _ (h.tm t)⟩, hk⟩
  | some t =>
    obtain ⟨ht, hk⟩ := hk
    refine ⟨_, ⟨h.ws.trans hw, by simpa [Act.put] using h.size, h.defers, fun j => ?_⟩, hk⟩
    simp only [Act.put, upd]
    by_cases hj : j = t
    · subst hj
      rw [if_pos rfl]
      have : j < a.tmps.size := by rw [h.size]; exact ht
      simpa [Array.getD_eq_getD_getElem?, this] using hv
    · rw [if_neg hj]
      have := Rep.mono hw.kept _ _ (h.tm j)
      rw [Array.getD_eq_getD_getElem?] at this ⊢
      rwa [Array.getElem?_setIfInBounds_ne (Ne.symm hj)]

/-! ### Operations in a frame -/
inductive Tg where
  | v | r | e
  | c (d : AV)
def stE (P : Program) (mu : Bool) (o : Oper) (tg : Tg) (ρ : Operand → AV) (own : Own) (K : AV → Own → Prop) : Prop := match tg with
  | .v => match pv P mu o.op ρ noOwn with
    | some (c, d) => c ∧ K d own
    | none => False
  | .r => match pv P mu o.op ρ own with
    | some (c, d) => c ∧ K d own
    | none => False
  | .c d => VSem P o ρ noOwn d ∧ K d own
  | .e => eff P mu o ρ own K
theorem stE_sound {P : Program} {mu : Bool} {o : Oper} {tg : Tg} {ρ : Operand → AV} {own : Own} {K : AV → Own → Prop} (h : stE P mu o tg ρ own K) : ESem P o ρ own K := by
  cases tg with
  | v =>
    simp only [stE] at h
    split at h
    · rename_i c d hp; exact ESem.of_V (pv_sound hp h.1).owned h.2
    · exact h.elim
  | r =>
    simp only [stE] at h
    split at h
    · rename_i c d hp; exact ESem.of_V (pv_sound hp h.1) h.2
    · exact h.elim
  | e => exact eff_sound h
  | c d => exact ESem.of_V h.1.owned h.2
theorem stE_congr {P : Program} {mu : Bool} {o : Oper} {tg : Tg} {ρ ρ' : Operand → AV} {own : Own} {K : AV → Own → Prop} (he : ∀ x ∈ o.op.operands, ρ' x = ρ x) : stE P mu o tg ρ' own K = stE P mu o tg ρ own K := by
  cases tg with
  | v => simp only [stE, pv_congr he]
  | r => simp only [stE, pv_congr he]
  | e => exact eff_congr he
  | c d =>
    simp only [stE]
    have : VSem P o ρ' noOwn d = VSem P o ρ noOwn d := propext ⟨fun h => h.congr fun x hx => (he x hx).symm, fun h => h.congr he⟩
    rw [this]

def memB : List Nat → Nat → Bool
  | [], _ => false
  | k :: l, t => if t = k then true else memB l t
def muOf (M : List Nat) (dst : Option Nat) : Bool := match dst with
  | some t => memB M t
  | none => false
def gv (ops : Array Oper) (s : St) (j : Nat) : AV := match (ops[j]?).bind (·.dst) with
  | some t => s.tm t
  | none => .any
/-- Holds its argument back from the symbolic run. -/
abbrev Hold (A : Prop) : Type := Unit
/-- A branch that the symbolic run does not look into. -/
def Br (t : Bool) (A B : Prop) (_ : Hold A := ()) (_ : Hold B := ()) : Prop := if t = true then A else B
theorem Br_true (A B : Prop) (hA : Hold A) (hB : Hold B) : Br true A B hA hB = A := if_pos rfl
theorem Br_false (A B : Prop) (hA : Hold A) (hB : Hold B) : Br false A B hA hB = B := if_neg (by decide)
theorem Br_pos {t : Bool} {A B : Prop} {hA : Hold A} {hB : Hold B} (h : t = true) : Br t A B hA hB = A := by rw [h]; exact Br_true A B hA hB
theorem Br_neg {t : Bool} {A B : Prop} {hA : Hold A} {hB : Hold B} (h : t = false) : Br t A B hA hB = B := by rw [h]; exact Br_false A B hA hB
theorem Br.of {t : Bool} {A B : Prop} {hA : Hold A} {hB : Hold B} (h1 : t = true → A) (h2 : t = false → B) : Br t A B hA hB := by
  cases t
  · rw [Br_false]; exact h2 rfl
  · rw [Br_true]; exact h1 rfl
def BrG (t want : Bool) (A B : Prop) : Prop := match want with
  | true => Br t A B
  | false => Br t B A
theorem BrG_iff (t want : Bool) (A B : Prop) : BrG t want A B ↔ if t = want then A else B := by
  cases t <;> cases want <;> simp [BrG, Br]
def stG (P : Program) (M : List Nat) (ops : Array Oper) (o : Oper) (tg : Tg) (s : St) (K : St → Prop) : Prop :=
  match o.guard with
  | none => stE P (muOf M o.dst) o tg s.ev s.own fun d own' => s.puts o.dst d own' K
  | some (j, want) => match gv ops s j with
    | .raw (.bool t) => BrG t want (stE P (muOf M o.dst) o tg s.ev s.own fun d own' => s.puts o.dst d own' K) (s.puts o.dst .any s.own K)
    | _ => False

/-- The guard's answer in the model. -/
theorem gv_wanted {B : Base} {s : St} {a : Act} {w : World} {F : Frz} (h : RepSt B s a w F) {ops : Array Oper} {j : Nat} {t : Bool} (hg : gv ops s j = .raw (.bool t)) : yielded ops a.tmps j = some t := by
  unfold gv at hg
  unfold yielded
  cases hd : (ops[j]?).bind (·.dst) with
  | none => rw [hd] at hg; cases hg
  | some u =>
    rw [hd] at hg
    simp only at hg
    have := h.tm u
    rw [hg] at this
    simp only [Rep] at this
    simp only [Option.bind_some]
    rw [Array.getD_eq_getD_getElem?] at this
    cases hu : a.tmps[u]? with
    | none => rw [hu] at this; simp [undef] at this
    | some x => rw [hu] at this; simp at this; simp [this]

theorem stG_sound {P : Program} {M : List Nat} {ops : Array Oper} {o : Oper} {tg : Tg} {B : Base} {s : St} {a : Act} {w : World} {F : Frz} {K : St → Prop} (hr : RepSt B s a w F) (h : stG P M ops o tg s K) {i : Nat} (ho : ops[i]? = some o) {Q : Exit → Act → World → Prop} {next : Act → World → Prop}
    (hk : ∀ s' a' w' F', RepSt B s' a' w' F' → K s' → next a' w') : wpOp P ops Q i next a w := by
  have main : ∀ {tg}, stE P (muOf M o.dst) o tg s.ev s.own (fun d own' => s.puts o.dst d own' K) → o.wp P a w next Q := by
    intro tg h
    refine OpRes.wp (stE_sound h w F a.eval hr.ws.wf hr.ws.owns fun x _ => hr.ev x) ?_
    rintro v w' ⟨F', d, own', h1, h2, h3⟩
    obtain ⟨s', r1, r2⟩ := hr.put h1 h2 h3
    exact hk _ _ _ _ r1 r2
  unfold wpOp
  simp only [ho]
  unfold stG at h
  split at h
  · rename_i hg
    simp only [Region.wanted, hg, if_true]
    exact .inl (main h)
  · rename_i j want hg
    split at h
    · rename_i t ht
      have hy := gv_wanted hr ht
      simp only [Region.wanted, hg, hy]
      rw [BrG_iff] at h
      by_cases htw : t = want
      · subst htw
        rw [if_pos rfl] at h
        rw [if_pos (by simp)]
        exact .inl (main h)
      · rw [if_neg htw] at h
        rw [if_neg (by simp [htw])]
        obtain ⟨s', r1, r2⟩ := hr.put hr.ws.here (d := .any) (v := undef) (by simp [Rep]) h
        exact hk _ _ _ _ r1 r2
    · exact h.elim

/-- The operations of a region in the order of the text. -/
def wpL (P : Program) (M : List Nat) (ops : Array Oper) : List Oper → St → (St → Prop) → Prop
  | [], s, K => K s
  | o :: rest, s, K => stG P M ops o .e s fun s' => wpL P M ops rest s' K

theorem wpL_sound {P : Program} {M : List Nat} {ops : Array Oper} {B : Base} {Q : Exit → Act → World → Prop} {K : St → Prop} (hk : ∀ s' a' w' F', RepSt B s' a' w' F' → K s' → Q .normal a' w') :
    ∀ (l : List Oper) (k : Nat) (s : St) (a : Act) (w : World) (F : Frz), (∀ j, l[j]? = ops[k + j]?) → RepSt B s a w F → wpL P M ops l s K → wpOps P ops Q (List.range' k l.length) a w
  | [], k, s, a, w, F, _, hr, h => by simpa [wpOps] using hk _ _ _ _ hr h
  | o :: l, k, s, a, w, F, hl, hr, h => by
    have h0 : ops[k]? = some o := by simpa using (hl 0).symm
    simp only [List.length_cons, List.range'_succ]
    rw [wpOps_cons]
    refine stG_sound hr h h0 fun s' a' w' F' hr' h' => ?_
    exact wpL_sound hk l (k + 1) s' a' w' F' (fun j => by have := hl (j + 1); simpa [Nat.add_assoc, Nat.add_comm 1 j] using this) hr' h'

/-! ### Code -/
def AW (P : Program) (c : Code) (Q : Exit → St → Prop) (s : St) : Prop :=
  ∀ B w F a, RepSt B s a w F → c.wp P (fun e a' w' => ∃ s' F', RepSt B s' a' w' F' ∧ Q e s') a w
def thenA (next : St → Prop) (Q : Exit → St → Prop) : Exit → St → Prop
  | .normal, s => next s
  | e, s => Q e s
def inBlockA (id : Nat) (Q : Exit → St → Prop) : Exit → St → Prop
  | .exit id', s => if id' = id then Q .normal s else Q (.exit id') s
  | e, s => Q e s
def wpC (P : Program) (M : List Nat) : Code → (Exit → St → Prop) → St → Prop
  | .skip, Q, s => Q .normal s
  | .region id ops true, Q, s => AW P (.region id ops true) Q s
  | .region _ ops false, Q, s => wpL P M ops ops.toList s (Q .normal)
  | .seq a b, Q, s => wpC P M a (thenA (wpC P M b Q) Q) s
  | .cond c x y, Q, s => match s.ev c with
    | .raw (.bool t) => Br t (wpC P M x Q s) (wpC P M y Q s)
    | _ => False
  | .block id b, Q, s => wpC P M b (inBlockA id Q) s
  | .exit id, Q, s => Q (.exit id) s
  | .ret, Q, s => Q .ret s
  | c, Q, s => AW P c Q s

theorem AW.mono {P : Program} {c : Code} {Q Q' : Exit → St → Prop} {s : St} (h : AW P c Q s) (hq : ∀ e s, Q e s → Q' e s) : AW P c Q' s :=
  fun B w F a hr => wp_mono (h B w F a hr) fun e a w ⟨s', F', r, q⟩ => ⟨s', F', r, hq _ _ q⟩

theorem AW.seq {P : Program} {x y : Code} {Q : Exit → St → Prop} {s : St} (h : AW P x (thenA (AW P y Q) Q) s) : AW P (.seq x y) Q s := by
  intro B w F a hr
  refine wp_seq (wp_mono (h B w F a hr) ?_)
  rintro e a' w' ⟨s', F', r, q⟩
  cases e with
  | normal => exact q B w' F' a' r
  | _ => exact ⟨s', F', r, q⟩
theorem AW.block {P : Program} {id : Nat} {c : Code} {Q : Exit → St → Prop} {s : St} (h : AW P c (inBlockA id Q) s) : AW P (.block id c) Q s := by
  intro B w F a hr
  refine wp_block (wp_mono (h B w F a hr) ?_)
  rintro e a' w' ⟨s', F', r, q⟩
  cases e with
  | exit id' =>
    simp only [inBlockA] at q
    simp only [Exit.inBlock]
    split at q
    · rw [if_pos ‹_›]; exact ⟨s', F', r, q⟩
    · rw [if_neg ‹_›]; exact ⟨s', F', r, q⟩
  | _ => exact ⟨s', F', r, q⟩
theorem AW.region {P : Program} {M : List Nat} {id : Nat} {ops : Array Oper} {Q : Exit → St → Prop} {s : St} (h : wpL P M ops ops.toList s (Q .normal)) : AW P (.region id ops false) Q s := by
  intro B w F a hr
  refine wp_region ?_
  have := wpL_sound (Q := fun e a' w' => ∃ s' F', RepSt B s' a' w' F' ∧ Q e s') (fun s' a' w' F' r k => ⟨s', F', r, k⟩) ops.toList 0 s a w F (fun j => by simp) hr h
  rw [List.range_eq_range']
  simpa using this

theorem wpC_sound {P : Program} {M : List Nat} : ∀ {c : Code} {Q : Exit → St → Prop} {s : St}, wpC P M c Q s → AW P c Q s := by
  intro c
  induction c with
  | skip => exact fun h B w F a hr => wp_skip ⟨_, F, hr, h⟩
  | region id ops draw =>
    intro Q s h
    cases draw
    · exact AW.region h
    · exact h
  | seq x y ihx ihy =>
    intro Q s h
    refine AW.seq ((ihx h).mono fun e s' q => ?_)
    cases e with
    | normal => exact ihy q
    | _ => exact q
  | cond c x y ihx ihy =>
    intro Q s h
    simp only [wpC] at h
    split at h
    · rename_i t ht
      intro B w F a hr
      have h1 := hr.ev c
      rw [ht] at h1
      simp only [Rep] at h1
      cases t
      · rw [Br_false] at h; exact wp_cond_false h1.1 (ihy h B w F a hr)
      · rw [Br_true] at h; exact wp_cond_true h1.1 (ihx h B w F a hr)
    · exact h.elim
  | block id b ih => exact fun h => AW.block (ih h)
  | exit id => exact fun h B w F a hr => wp_exit ⟨_, F, hr, h⟩
  | ret => exact fun h B w F a hr => wp_ret ⟨_, F, hr, h⟩
  | _ => exact fun h => h

/-! ### Seeing a state in a weaker way -/
/-- Every slot that s' speaks of is as in s (or not spoken of), and the objects of s' are objects of s. -/
structure Le (s s' : St) : Prop where
  n : s.n = s'.n
  tm : ∀ t, s'.tm t = .any ∨ s.tm t = s'.tm t
  own : ∀ k o, s'.own k = some o → s.own k = some o
theorem RepSt.le {B : Base} {s s' : St} {a : Act} {w : World} {F : Frz} (h : RepSt B s a w F) (hl : Le s s') : RepSt B s' a w F :=
  ⟨h.ws.drop hl.own, h.size.trans hl.n, h.defers, fun t => by
    rcases hl.tm t with e | e
    · rw [e]; simp [Rep]
    · rw [← e]; exact h.tm t⟩
theorem AW.le {P : Program} {c : Code} {Q : Exit → St → Prop} {s s' : St} (hl : Le s s') (h : AW P c Q s') : AW P c Q s :=
  fun B w F a hr => h B w F a (hr.le hl)
/-- A ghost step: the same frame, seen as another state. -/
def Ghost (s s' : St) : Prop := ∀ B w F a, RepSt B s a w F → ∃ F', RepSt B s' a w F'
theorem AW.ghost {P : Program} {c : Code} {Q : Exit → St → Prop} {s s' : St} (hl : Ghost s s') (h : AW P c Q s') : AW P c Q s :=
  fun B w F a hr => by obtain ⟨F', hr'⟩ := hl B w F a hr; exact h B w F' a hr'
theorem Le.ghost {s s' : St} (h : Le s s') : Ghost s s' := fun B w F a hr => ⟨F, hr.le h⟩
theorem Ghost.trans {s s1 s2 : St} (h : Ghost s s1) (h' : Ghost s1 s2) : Ghost s s2 := fun B w F a hr => by
  obtain ⟨F1, h1⟩ := h B w F a hr
  exact h' B w F1 a h1

/-! ### Loops -/
theorem AW.loop {P : Program} {c : Code} {Q : Exit → St → Prop} {s : St} {X : Type} (I : X → St) (μ : X → Nat) (x0 : X) (h0 : Ghost s (I x0))
    (hr : ∀ x, AW P c (thenA (fun s' => ∃ x', Ghost s' (I x') ∧ μ x' < μ x) Q) (I x)) : AW P (.loop c) Q s := by
  intro B w F a hrep
  obtain ⟨F0, hrep⟩ := h0 B w F a hrep
  refine wp_loop_ghost (fun n a w => ∃ x F, μ x = n ∧ RepSt B (I x) a w F) (μ x0) ⟨x0, F0, rfl, hrep⟩ ?_
  rintro n a w ⟨x, F, rfl, hI⟩
  refine wp_mono (hr x B w F a hI) ?_
  rintro e a' w' ⟨s', F', r, q⟩
  cases e with
  | normal =>
    obtain ⟨x', hg, hlt⟩ := q
    obtain ⟨F2, r2⟩ := hg B w' F' a' r
    exact ⟨μ x', hlt, x', F2, rfl, r2⟩
  | _ => exact ⟨s', F', r, q⟩

/-- A loop: 'I x' is the state at a round's head, 'J x' what holds of x, 'μ' goes down. -/
theorem AW.loopJ {P : Program} {M : List Nat} {c : Code} {Q : Exit → St → Prop} {s : St} {X : Type} (I : X → St) (J : X → Prop) (μ : X → Nat) (x0 : X) (hJ : J x0) (h0 : Ghost s (I x0))
    (hr : ∀ x, J x → wpC P M c (thenA (fun s' => ∃ x', J x' ∧ Ghost s' (I x') ∧ μ x' < μ x) Q) (I x)) : AW P (.loop c) Q s := by
  refine AW.loop (X := { x : X // J x }) (fun x => I x.1) (fun x => μ x.1) ⟨x0, hJ⟩ h0 fun x => ?_
  refine (wpC_sound (hr x.1 x.2)).mono fun e s' q => ?_
  cases e with
  | normal => obtain ⟨x', h1, h2, h3⟩ := q; exact ⟨⟨x', h1⟩, h2, h3⟩
  | _ => exact q

/-! ### A region whose order is drawn -/
/-- Operation i has to come before operation j. -/
def reachB (ops : Array Oper) : Nat → Nat → Nat → Bool
  | 0, _, _ => false
  | fuel + 1, i, j => match ops[j]? with
    | some o => o.after.toList.any fun e => Region.binds .any e && (e.on == i || reachB ops fuel i e.on)
    | none => false
def compatT (x y : Tg) : Bool := match x, y with
  | .e, .e | .e, .r | .r, .e => false
  | _, _ => true
/-- Everything is found in order: each edge leads back, and what is not ordered is apart. -/
def drawB (ops : Array Oper) (tags : List Tg) : Bool :=
  Region.noSelect ops && ops.size == tags.length &&
  (List.range ops.size).all fun j => match ops[j]? with
    | none => false
    | some oj => oj.after.toList.all (fun e => !Region.binds .any e || decide (e.on < j)) &&
      (List.range j).all fun i => match ops[i]? with
        | none => false
        | some oi => reachB ops ops.size i j || (oi.apart ops oj && compatT (tags.getD i .e) (tags.getD j .e))

abbrev Item' := Nat × Oper × Tg
def wpD (P : Program) (M : List Nat) (ops : Array Oper) : List Item' → St → (St → Prop) → Prop
  | [], s, K => K s
  | (_, o, tg) :: rest, s, K => stG P M ops o tg s fun s' => wpD P M ops rest s' K

theorem ev_put {s : St} {t : Nat} {d : AV} {own : Own} {x : Operand} (h : x ≠ .tmp t) : (⟨s.n, upd s.tm t d, own⟩ : St).ev x = s.ev x := by
  cases x with
  | tmp u => simp only [St.ev]; exact upd_ne _ _ fun e => h (e ▸ rfl)
  | _ => rfl

/-- The state with a slot written. -/
def St.at (s : St) (dst : Option Nat) (d : AV) : St := match dst with
  | none => s
  | some t => ⟨s.n, upd s.tm t d, s.own⟩
theorem at_own (s : St) (dst : Option Nat) (d : AV) : (s.at dst d).own = s.own := by cases dst <;> rfl
theorem at_n (s : St) (dst : Option Nat) (d : AV) : (s.at dst d).n = s.n := by cases dst <;> rfl
theorem at_ev {ops : Array Oper} {oi oj : Oper} (hd : ∀ t, oi.dst = some t → t ∉ oj.looksAt ops) (s : St) (d : AV) : ∀ x ∈ oj.op.operands, (s.at oi.dst d).ev x = s.ev x := by
  intro x hx
  cases hi : oi.dst with
  | none => rfl
  | some t =>
    refine ev_put fun e => hd t hi ?_
    subst e
    unfold Oper.looksAt
    exact List.mem_append.2 (.inl (List.mem_filterMap.2 ⟨.tmp t, by simpa using hx, rfl⟩))
theorem at_gv {ops : Array Oper} {oi oj : Oper} (hd : ∀ t, oi.dst = some t → t ∉ oj.looksAt ops) (s : St) (d : AV) {j : Nat} {want : Bool} (hg : oj.guard = some (j, want)) : gv ops (s.at oi.dst d) j = gv ops s j := by
  unfold gv
  cases hu : (ops[j]?).bind (·.dst) with
  | none => rfl
  | some u =>
    simp only
    cases hi : oi.dst with
    | none => rfl
    | some t =>
      refine upd_ne _ _ fun e => hd t hi ?_
      subst e
      unfold Oper.looksAt
      exact List.mem_append.2 (.inr (by rw [hg]; simp [hu]))

/-- 'puts' behind a slot that something else writes. -/
theorem puts_at {s : St} {oi oj : Option Nat} {di dj : AV} {own : Own} {K : St → Prop} (hne : ∀ t, oi = some t → oj ≠ some t) (h : s.puts oj dj own fun s' => K (s'.at oi di)) : (s.at oi di).puts oj dj own K := by
  cases oi with
  | none => exact h
  | some t =>
    cases oj with
    | none => exact h
    | some u =>
      obtain ⟨h1, h2⟩ := h
      refine ⟨h1, ?_⟩
      simp only [St.at] at h2 ⊢
      rwa [upd_comm _ _ _ fun e => hne t rfl (by rw [e])] at h2
theorem puts_mono {s : St} {dst : Option Nat} {d : AV} {own : Own} {K K' : St → Prop} (h : s.puts dst d own K) (hk : ∀ s', s'.n = s.n → s'.own = own → (∀ t, dst ≠ some t → s'.tm t = s.tm t) → K s' → K' s') : s.puts dst d own K' := by
  cases dst with
  | none => exact hk _ rfl rfl (fun _ _ => rfl) h
  | some t => exact ⟨h.1, hk _ rfl rfl (fun u hu => upd_ne _ _ fun e => hu (by rw [e])) h.2⟩
theorem AC.mono' {P : Program} {f : Nat} {args : List AV} {own : Own} {K K' : AV → Own → Prop} (h : ACs P f args own K) (hk : ∀ d own', K d own' → K' d own') : ACs P f args own K' := AC.mono h hk
theorem effE_mono {P : Program} {o : Oper} {ρ : Operand → AV} {own : Own} {K K' : AV → Own → Prop} (h : effE P o ρ own K) (hk : ∀ d own', K d own' → K' d own') : effE P o ρ own K' := by
  unfold effE at *
  split at h
  · unfold allocE at *; split at h; exact ⟨h.1, fun k hk' => hk _ _ (h.2 k hk')⟩; exact h.elim
  · exact ⟨h.1, fun k hk' => hk _ _ (h.2 k hk')⟩
  · unfold bsE at *
    split at h
    · split at h
      · exact ⟨h.1, h.2.1, fun k hk' => hk _ _ (h.2.2 k hk')⟩
      · exact h.elim
    · exact h.elim
  · unfold makeE at *
    split at h
    · split at h
      · obtain ⟨h1, h2, h3, h4, h5, h6, h7⟩ := h
        exact ⟨h1, h2, h3, h4, h5, h6, fun k hk' => hk _ _ (h7 k hk')⟩
      · exact h.elim
    · exact h.elim
  · unfold storeE at *
    split at h
    · split at h
      · obtain ⟨h1, h2, h3, h4⟩ := h
        exact ⟨h1, h2, h3, hk _ _ h4⟩
      · exact h.elim
    · exact h.elim
  · unfold binE' at *
    split at h
    · exact eqNilE_mono h fun d => hk d _
    · exact eqNilE_mono h fun d => hk d _
    · exact ESem.mono h hk
  · split at h
    · unfold appE at *
      split at h
      · split at h
        · split at h
          · obtain ⟨h1, h2, h3, h4⟩ := h
            refine ⟨h1, h2, h3, ?_⟩
            split at h4
            · obtain ⟨g1, g2, g3, g4⟩ := h4
              exact ⟨g1, g2, fun hm => hk _ _ (g3 hm), fun hm k c hq hq2 => hk _ _ (g4 hm k c hq hq2)⟩
            · obtain ⟨g1, g2, g3, g4⟩ := h4
              exact ⟨g1, g2, fun hm => hk _ _ (g3 hm), fun hm k c hq hq2 => hk _ _ (g4 hm k c hq hq2)⟩
            · split at h4
              · split at h4
                · obtain ⟨g1, g2, g3, g4, g5, g6⟩ := h4
                  exact ⟨g1, g2, g3, g4, g5, hk _ _ g6⟩
                · exact h4.elim
              · split at h4
                · obtain ⟨g1, g2, g3, g4, g5, g6⟩ := h4
                  exact ⟨g1, g2, g3, g4, g5, fun k' c' hq hq2 => hk _ _ (g6 k' c' hq hq2)⟩
                · exact h4.elim
            · exact h4.elim
          · exact h.elim
        · exact h.elim
      · exact h.elim
    · exact ESem.mono h hk
  · unfold callE at *
    split at h
    · exact AC.mono' h hk
    · exact ESem.mono h hk
  · exact ESem.mono h hk
theorem stE_mono {P : Program} {mu : Bool} {o : Oper} {tg : Tg} {ρ : Operand → AV} {own : Own} {K K' : AV → Own → Prop} (h : stE P mu o tg ρ own K) (hk : ∀ d own', (tg = .e ∨ own' = own) → K d own' → K' d own') : stE P mu o tg ρ own K' := by
  cases tg with
  | e =>
    simp only [stE] at h ⊢
    unfold eff at *
    split at h
    · exact ⟨h.1, hk _ _ (.inl rfl) h.2⟩
    · exact effE_mono h fun d own' => hk d own' (.inl rfl)
  | v =>
    simp only [stE] at h ⊢
    split at h
    · rename_i c d hp; exact ⟨h.1, hk _ _ (.inr rfl) h.2⟩
    · exact h.elim
  | r =>
    simp only [stE] at h ⊢
    split at h
    · rename_i c d hp; exact ⟨h.1, hk _ _ (.inr rfl) h.2⟩
    · exact h.elim
  | c d => exact ⟨h.1, hk _ _ (.inr rfl) h.2⟩

/-- s' is s but for a slot and, if the operation writes, the objects. -/
def Agree (s s' : St) (dst : Option Nat) (tg : Tg) : Prop := s'.n = s.n ∧ (tg = .e ∨ s'.own = s.own) ∧ ∀ t, dst ≠ some t → s'.tm t = s.tm t
theorem stG_mono {P : Program} {M : List Nat} {ops : Array Oper} {o : Oper} {tg : Tg} {s : St} {K K' : St → Prop} (h : stG P M ops o tg s K) (hk : ∀ s', Agree s s' o.dst tg → K s' → K' s') : stG P M ops o tg s K' := by
  have main : stE P (muOf M o.dst) o tg s.ev s.own (fun d own' => s.puts o.dst d own' K) → stE P (muOf M o.dst) o tg s.ev s.own (fun d own' => s.puts o.dst d own' K') :=
    fun h => stE_mono h fun d own' ho hp => puts_mono hp fun s' e1 e2 e3 hq => hk s' ⟨e1, ho.imp id fun e => e2.trans e, e3⟩ hq
  unfold stG at *
  split at h
  · exact main h
  · split at h
    · rw [BrG_iff] at h ⊢
      split at h
      · rw [if_pos ‹_›]; exact main h
      · rw [if_neg ‹_›]; exact puts_mono h fun s' e1 e2 e3 hq => hk s' ⟨e1, .inr e2, e3⟩ hq
    · exact h.elim

theorem at_puts {s : St} {oi oj : Option Nat} {di dj : AV} {own : Own} {K : St → Prop} (hne : ∀ t, oi = some t → oj ≠ some t) (h : (s.at oi di).puts oj dj own K) : s.puts oj dj own fun s' => K (s'.at oi di) := by
  cases oi with
  | none => exact h
  | some t =>
    cases oj with
    | none => exact h
    | some u =>
      obtain ⟨h1, h2⟩ := h
      refine ⟨h1, ?_⟩
      simp only [St.at] at h2 ⊢
      rwa [upd_comm _ _ _ fun e => hne t rfl (by rw [e])]

theorem stG_at {P : Program} {M : List Nat} {ops : Array Oper} {oi oj : Oper} {tg : Tg} {s : St} {di : AV} {K : St → Prop} (hap : (∀ d, oi.dst = some d → d ∉ oj.looksAt ops) ∧ (∀ d, oi.dst = some d → oj.dst ≠ some d)) :
    stG P M ops oj tg (s.at oi.dst di) K ↔ stG P M ops oj tg s fun s' => K (s'.at oi.dst di) := by
  have hev := at_ev hap.1 s di
  have main : stE P (muOf M oj.dst) oj tg (s.at oi.dst di).ev (s.at oi.dst di).own (fun d own' => (s.at oi.dst di).puts oj.dst d own' K) ↔ stE P (muOf M oj.dst) oj tg s.ev s.own (fun d own' => s.puts oj.dst d own' fun s' => K (s'.at oi.dst di)) := by
    rw [stE_congr hev, at_own]
    exact ⟨fun h => stE_mono h fun d own' _ hp => at_puts hap.2 hp, fun h => stE_mono h fun d own' _ hp => puts_at hap.2 hp⟩
  unfold stG
  cases hg : oj.guard with
  | none => exact main
  | some g =>
    obtain ⟨j, want⟩ := g
    simp only
    rw [at_gv hap.1 s di hg]
    generalize gv ops s j = q
    cases q with
    | raw v =>
      cases v with
      | bool t =>
        simp only
        rw [BrG_iff, BrG_iff]
        by_cases ht : t = want
        · rw [if_pos ht, if_pos ht]; exact main
        · rw [if_neg ht, if_neg ht, at_own]
          exact ⟨fun h => at_puts hap.2 h, fun h => puts_at hap.2 h⟩
      | _ => exact Iff.rfl
    | _ => exact Iff.rfl

/-- What an operation that does not write comes to at a state. -/
def ivM (P : Program) (M : List Nat) (o : Oper) (tg : Tg) (s : St) : Option (Prop × AV) := match tg with
  | .v => pv P (muOf M o.dst) o.op s.ev noOwn
  | .r => pv P (muOf M o.dst) o.op s.ev s.own
  | .c d => some (VSem P o s.ev noOwn d, d)
  | .e => none
def iv (P : Program) (M : List Nat) (ops : Array Oper) (o : Oper) (tg : Tg) (s : St) : Option (Prop × AV) :=
  match o.guard with
  | none => ivM P M o tg s
  | some (j, want) => match gv ops s j with
    | .raw (.bool t) => if t = want then ivM P M o tg s else some (True, .any)
    | _ => none
def boundD (s : St) (dst : Option Nat) : Prop := match dst with
  | none => True
  | some t => t < s.n
theorem puts_iff {s : St} {dst : Option Nat} {d : AV} {K : St → Prop} : s.puts dst d s.own K ↔ boundD s dst ∧ K (s.at dst d) := by
  cases dst with
  | none => exact ⟨fun h => ⟨trivial, h⟩, fun h => h.2⟩
  | some t => exact Iff.rfl
theorem stG_iv {P : Program} {M : List Nat} {ops : Array Oper} {o : Oper} {tg : Tg} {s : St} {K : St → Prop} (htg : tg ≠ .e) :
    stG P M ops o tg s K ↔ ∃ c d, iv P M ops o tg s = some (c, d) ∧ c ∧ boundD s o.dst ∧ K (s.at o.dst d) := by
  have main : stE P (muOf M o.dst) o tg s.ev s.own (fun d own' => s.puts o.dst d own' K) ↔ ∃ c d, ivM P M o tg s = some (c, d) ∧ c ∧ boundD s o.dst ∧ K (s.at o.dst d) := by
    cases tg with
    | e => exact absurd rfl htg
    | v =>
      simp only [stE, ivM]
      cases pv P (muOf M o.dst) o.op s.ev noOwn with
      | none => simp
      | some x => obtain ⟨c, d⟩ := x; simp only [puts_iff, Option.some.injEq, Prod.mk.injEq]; exact ⟨fun h => ⟨c, d, ⟨rfl, rfl⟩, h⟩, fun ⟨c', d', ⟨e1, e2⟩, h⟩ => by subst e1; subst e2; exact h⟩
    | r =>
      simp only [stE, ivM]
      cases pv P (muOf M o.dst) o.op s.ev s.own with
      | none => simp
      | some x => obtain ⟨c, d⟩ := x; simp only [puts_iff, Option.some.injEq, Prod.mk.injEq]; exact ⟨fun h => ⟨c, d, ⟨rfl, rfl⟩, h⟩, fun ⟨c', d', ⟨e1, e2⟩, h⟩ => by subst e1; subst e2; exact h⟩
    | c d0 =>
      simp only [stE, ivM, puts_iff, Option.some.injEq, Prod.mk.injEq]
      exact ⟨fun h => ⟨_, d0, ⟨rfl, rfl⟩, h⟩, fun ⟨c', d', ⟨e1, e2⟩, h⟩ => by subst e1; subst e2; exact h⟩
  unfold stG iv
  cases hg : o.guard with
  | none => exact main
  | some g =>
    obtain ⟨j, want⟩ := g
    simp only
    generalize gv ops s j = q
    cases q with
    | raw v =>
      cases v with
      | bool t =>
        simp only
        rw [BrG_iff]
        by_cases ht : t = want
        · rw [if_pos ht, if_pos ht]; exact main
        · rw [if_neg ht, if_neg ht, puts_iff]
          simp only [Option.some.injEq, Prod.mk.injEq]
          exact ⟨fun h => ⟨True, .any, ⟨rfl, rfl⟩, trivial, h⟩, fun ⟨c', d', ⟨e1, e2⟩, _, h⟩ => by subst e2; exact h⟩
      | _ => simp
    | _ => simp
theorem iv_agree {P : Program} {M : List Nat} {ops : Array Oper} {ox oj : Oper} {tx tj : Tg} {s s' : St} (h : Agree s s' ox.dst tx) (hap : ∀ d, ox.dst = some d → d ∉ oj.looksAt ops) (hc : tj = .r → tx ≠ .e) : iv P M ops oj tj s' = iv P M ops oj tj s := by
  obtain ⟨h1, h2, h3⟩ := h
  have hev : ∀ x ∈ oj.op.operands, s'.ev x = s.ev x := by
    intro x hx
    cases x with
    | tmp u =>
      refine h3 u fun e => hap u e ?_
      unfold Oper.looksAt
      exact List.mem_append.2 (.inl (List.mem_filterMap.2 ⟨.tmp u, by simpa using hx, rfl⟩))
    | _ => rfl
  have hmain : ivM P M oj tj s' = ivM P M oj tj s := by
    cases tj with
    | v => exact pv_congr hev
    | r => simp only [ivM]; rw [h2.resolve_left (hc rfl)]; exact pv_congr hev
    | e => rfl
    | c d =>
      simp only [ivM, Option.some.injEq, Prod.mk.injEq, and_true]
      exact propext ⟨fun h => h.congr fun x hx => (hev x hx).symm, fun h => h.congr hev⟩
  unfold iv
  rw [hmain]
  cases hg : oj.guard with
  | none => rfl
  | some g =>
    obtain ⟨j, want⟩ := g
    simp only
    have : gv ops s' j = gv ops s j := by
      unfold gv
      cases hu : (ops[j]?).bind (·.dst) with
      | none => rfl
      | some u =>
        refine h3 u fun e => hap u e ?_
        unfold Oper.looksAt
        exact List.mem_append.2 (.inr (by rw [hg]; simp [hu]))
    rw [this]

theorem OpRes.exists {P : Program} {o : Oper} {ev : Operand → Value} {w : World} {R : Value → World → Prop} (h : OpRes P o ev w R) : ∃ v w', R v w' := by
  unfold OpRes at h
  split at h
  · exact ⟨_, _, h⟩
  · exact ⟨_, _, h⟩
  · obtain ⟨e, w', fr, ⟨v, _, hR⟩, _⟩ := h []
    exact ⟨v, w', hR⟩
  · exact h.elim
theorem stG_exists {P : Program} {M : List Nat} {ops : Array Oper} {o : Oper} {tg : Tg} {B : Base} {s : St} {a : Act} {w : World} {F : Frz} {K : St → Prop} (hr : RepSt B s a w F) (h : stG P M ops o tg s K) : ∃ s' a' w' F', RepSt B s' a' w' F' ∧ K s' ∧ Agree s s' o.dst tg := by
  have h2 := stG_mono h (K' := fun s' => K s' ∧ Agree s s' o.dst tg) fun s' ha hk => ⟨hk, ha⟩
  have main : ∀ {tg K}, stE P (muOf M o.dst) o tg s.ev s.own (fun d own' => s.puts o.dst d own' K) → ∃ s' a' w' F', RepSt B s' a' w' F' ∧ K s' := by
    intro tg K h
    obtain ⟨v, w', F', d, own', h1, h2, h3⟩ := (stE_sound h w F a.eval hr.ws.wf hr.ws.owns fun x _ => hr.ev x).exists
    obtain ⟨s', r1, r2⟩ := hr.put h1 h2 h3
    exact ⟨s', _, w', F', r1, r2⟩
  unfold stG at h2
  split at h2
  · obtain ⟨s', a', w', F', r, k⟩ := main h2; exact ⟨s', a', w', F', r, k.1, k.2⟩
  · split at h2
    · rw [BrG_iff] at h2
      split at h2
      · obtain ⟨s', a', w', F', r, k⟩ := main h2; exact ⟨s', a', w', F', r, k.1, k.2⟩
      · obtain ⟨s', r1, r2⟩ := hr.put hr.ws.here (d := .any) (v := undef) (by simp [Rep]) h2
        exact ⟨s', _, w, F, r1, r2.1, r2.2⟩
    · exact h2.elim

/-- Two items of a region neither of which has to come before the other. -/
def Free (ops : Array Oper) (x y : Item') : Prop := x.2.1.apart ops y.2.1 = true ∧ compatT x.2.2 y.2.2 = true

section
variable {P : Program} {M : List Nat} {ops : Array Oper} {K : St → Prop}
theorem pull_ok {j : Item'} (hj : j.2.2 ≠ .e) {ys : List Item'} {B : Base} : ∀ {xs : List Item'} {s : St} {a : Act} {w : World} {F : Frz}, (∀ x ∈ xs, Free ops x j) → RepSt B s a w F → wpD P M ops (xs ++ j :: ys) s K → ∃ c d, iv P M ops j.2.1 j.2.2 s = some (c, d) ∧ c ∧ boundD s j.2.1.dst
  | [], s, a, w, F, _, hr, h => by
    obtain ⟨c, d, h1, h2, h3, _⟩ := (stG_iv hj).1 h
    exact ⟨c, d, h1, h2, h3⟩
  | x :: xs, s, a, w, F, hf, hr, h => by
    obtain ⟨s', a', w', F', r, k, hag⟩ := stG_exists hr h
    obtain ⟨c, d, h1, h2, h3⟩ := pull_ok hj (fun y hy => hf y (by simp [hy])) r k
    obtain ⟨f1, f2⟩ := hf x (by simp)
    obtain ⟨g1, g2, g3⟩ := Oper.apart_spec f1
    rw [iv_agree hag g1 (fun e e2 => by rw [e, e2] at f2; simp [compatT] at f2)] at h1
    refine ⟨c, d, h1, h2, ?_⟩
    unfold boundD at h3 ⊢
    rw [hag.1] at h3
    exact h3
theorem pull_val {j : Item'} (hj : j.2.2 ≠ .e) {ys : List Item'} {c : Prop} {d : AV} : ∀ {xs : List Item'} {s : St}, (∀ x ∈ xs, Free ops x j) → iv P M ops j.2.1 j.2.2 s = some (c, d) → wpD P M ops (xs ++ j :: ys) s K → wpD P M ops (xs ++ ys) (s.at j.2.1.dst d) K
  | [], s, _, hi, h => by
    obtain ⟨c', d', h1, h2, h3, h4⟩ := (stG_iv hj).1 h
    rw [h1] at hi
    injection hi with hi; injection hi with _ hi; subst hi
    exact h4
  | x :: xs, s, hf, hi, h => by
    obtain ⟨f1, f2⟩ := hf x (by simp)
    obtain ⟨g1, g2, g3⟩ := Oper.apart_spec f1
    refine (stG_at (oi := j.2.1) ⟨g3, fun t ht e => g2 t e ht⟩).2 ?_
    refine stG_mono h fun s' hag hk => ?_
    refine pull_val (c := c) (d := d) hj (fun y hy => hf y (by simp [hy])) ?_ hk
    rw [iv_agree hag g1 (fun e e2 => by rw [e, e2] at f2; simp [compatT] at f2)]
    exact hi
theorem pull_eff {j : Item'} (hj : j.2.2 = .e) {ys : List Item'} : ∀ {xs : List Item'} {s : St}, (∀ x ∈ xs, Free ops x j) → wpD P M ops (xs ++ j :: ys) s K → stG P M ops j.2.1 j.2.2 s fun s' => wpD P M ops (xs ++ ys) s' K
  | [], s, _, h => h
  | x :: xs, s, hf, h => by
    obtain ⟨f1, f2⟩ := hf x (by simp)
    obtain ⟨g1, g2, g3⟩ := Oper.apart_spec f1
    have hx : x.2.2 ≠ .e ∧ x.2.2 ≠ .r := by
      rw [hj] at f2
      constructor <;> (intro e; rw [e] at f2; simp [compatT] at f2)
    obtain ⟨c, d, h1, h2, h3, h4⟩ := (stG_iv hx.1).1 h
    have ih := pull_eff hj (fun y hy => hf y (by simp [hy])) h4
    have ih := (stG_at (oi := x.2.1) ⟨g1, g2⟩).1 ih
    refine stG_mono ih fun s' hag hk => ?_
    refine (stG_iv hx.1).2 ⟨c, d, ?_, h2, ?_, hk⟩
    · rw [iv_agree hag g3 (fun e => absurd e hx.2)]; exact h1
    · unfold boundD at h3 ⊢
      rw [hag.1]
      exact h3
theorem pull {j : Item'} {xs ys : List Item'} {B : Base} {s : St} {a : Act} {w : World} {F : Frz} (hf : ∀ x ∈ xs, Free ops x j) (hr : RepSt B s a w F) (h : wpD P M ops (xs ++ j :: ys) s K) : stG P M ops j.2.1 j.2.2 s fun s' => wpD P M ops (xs ++ ys) s' K := by
  by_cases hj : j.2.2 = .e
  · exact pull_eff hj hf h
  · obtain ⟨c, d, h1, h2, h3⟩ := pull_ok hj hf hr h
    exact (stG_iv hj).2 ⟨c, d, h1, h2, h3, pull_val hj hf h1 h⟩
end

/-- What is listed is closed downwards. -/
def Closed (ops : Array Oper) (listed : Array Bool) : Prop := ∀ j o, listed.getD j false = true → ops[j]? = some o → ∀ e ∈ o.after, Region.binds .any e = true → listed.getD e.on false = true
theorem reach_listed {ops : Array Oper} {listed : Array Bool} (hcl : Closed ops listed) : ∀ (fuel i j : Nat), reachB ops fuel i j = true → (∀ o, ops[j]? = some o → ∀ e ∈ o.after, Region.binds .any e = true → listed.getD e.on false = true) → listed.getD i false = true
  | 0, i, j, h, _ => by simp [reachB] at h
  | fuel + 1, i, j, h, hd => by
    simp only [reachB] at h
    cases ho : ops[j]? with
    | none => rw [ho] at h; cases h
    | some o =>
      rw [ho] at h
      simp only [List.any_eq_true, Bool.and_eq_true, Bool.or_eq_true, beq_iff_eq] at h
      obtain ⟨e, he, hb, h⟩ := h
      have hl := hd o ho e (by simpa using he) hb
      rcases h with h | h
      · rw [← h]; exact hl
      · exact reach_listed hcl fuel i e.on h fun o' ho' e' he' hb' => hcl e.on o' hl ho' e' he' hb'

theorem draw_sound {P : Program} {M : List Nat} {ops : Array Oper} {tags : List Tg} (hB : drawB ops tags = true) {B : Base} {K : St → Prop} {Q : Exit → Act → World → Prop} (hk : ∀ s' a' w' F', RepSt B s' a' w' F' → K s' → Q .normal a' w') :
    ∀ (R : List Item') (listed : Array Bool) (s : St) (a : Act) (w : World) (F : Frz), listed.size = ops.size → Closed ops listed → R.Pairwise (fun x y => x.1 < y.1) → (∀ x ∈ R, x.1 < ops.size ∧ ops[x.1]? = some x.2.1 ∧ x.2.2 = tags.getD x.1 .e ∧ listed.getD x.1 true = false) →
      (∀ i, i < ops.size → listed.getD i true = false → ∃ x ∈ R, x.1 = i) → RepSt B s a w F → wpD P M ops R s K → wpAny P .any ops Q R.length listed a w := by
  have hB' := hB
  simp only [drawB, Bool.and_eq_true, List.all_eq_true, List.mem_range] at hB'
  obtain ⟨⟨_, _⟩, hB'⟩ := hB'
  have hedge : ∀ j o, ops[j]? = some o → ∀ e ∈ o.after, Region.binds .any e = true → e.on < j := by
    intro j o ho e he hb
    have := hB' j (Array.getElem?_eq_some_iff.1 ho).1
    rw [ho] at this
    simp only [Bool.and_eq_true, List.all_eq_true, Bool.or_eq_true, Bool.not_eq_true', decide_eq_true_eq] at this
    exact (this.1 e (by simpa using he)).resolve_left (by simp [hb])
  have hfree : ∀ i j oi oj, i < j → ops[i]? = some oi → ops[j]? = some oj → reachB ops ops.size i j = true ∨ (oi.apart ops oj = true ∧ compatT (tags.getD i .e) (tags.getD j .e) = true) := by
    intro i j oi oj hij hi hj
    have := hB' j (Array.getElem?_eq_some_iff.1 hj).1
    rw [hj] at this
    simp only [Bool.and_eq_true] at this
    have h2 := List.all_eq_true.1 this.2 i (List.mem_range.2 hij)
    rw [hi] at h2
    simpa [Bool.or_eq_true, Bool.and_eq_true] using h2
  intro R
  induction hn : R.length generalizing R with
  | zero =>
    intro listed s a w F hsz hcl hp hR hall hr h
    have : R = [] := List.eq_nil_of_length_eq_zero hn
    subst this
    refine ⟨?_, hk _ _ _ _ hr h⟩
    apply List.eq_nil_iff_forall_not_mem.2
    intro j hj
    obtain ⟨h0, o, ho, _⟩ := mem_ready.1 hj
    obtain ⟨x, hx, _⟩ := hall j (Array.getElem?_eq_some_iff.1 ho).1 h0
    cases hx
  | succ n ih =>
    intro listed s a w F hsz hcl hp hR hall hr h
    refine ⟨fun h0 => ?_, fun j hj => ?_⟩
    · -- the first that is left is ready
      exfalso
      cases R with
      | nil => simp at hn
      | cons x R =>
        obtain ⟨x1, x2, x3, x4⟩ := hR x (by simp)
        have : x.1 ∈ Region.ready .any ops listed := by
          refine mem_ready.2 ⟨x4, x.2.1, x2, fun e he hb => ?_⟩
          have hlt := hedge _ _ x2 e he hb
          cases hl : listed.getD e.on false with
          | true => rfl
          | false =>
            have hl' : listed.getD e.on true = false := by
              have : e.on < listed.size := by omega
              rw [Array.getD_eq_getD_getElem?, Array.getElem?_eq_getElem this] at hl ⊢
              exact hl
            obtain ⟨y, hy, hye⟩ := hall e.on (by omega) hl'
            rcases List.mem_cons.1 hy with rfl | hy
            · omega
            · have := (List.pairwise_cons.1 hp).1 y hy
              omega
        rw [h0] at this
        cases this
    · obtain ⟨h0, o, ho, hdone⟩ := mem_ready.1 hj
      obtain ⟨x, hx, hxj⟩ := hall j (Array.getElem?_eq_some_iff.1 ho).1 h0
      obtain ⟨xs, ys, rfl⟩ := List.append_of_mem hx
      subst hxj
      obtain ⟨x1, x2, x3, x4⟩ := hR x hx
      rw [x2] at ho
      injection ho with ho
      subst ho
      have hF : ∀ y ∈ xs, Free ops y x := by
        intro y hy
        obtain ⟨y1, y2, y3, y4⟩ := hR y (by simp [hy])
        have hlt : y.1 < x.1 := (List.pairwise_append.1 hp).2.2 y hy x (by simp)
        rcases hfree y.1 x.1 _ _ hlt y2 x2 with hq | hq
        · exfalso
          have := reach_listed hcl ops.size y.1 x.1 hq fun o' ho' e he hb => hdone e (by rw [x2] at ho'; injection ho' with ho'; rw [ho']; exact he) hb
          rw [Array.getD_eq_getD_getElem?] at this y4
          cases hz : listed[y.1]? with
          | none => rw [hz] at this; cases this
          | some b => rw [hz] at this y4; simp at this y4; rw [this] at y4; cases y4
        · exact ⟨hq.1, by rw [y3, x3]; exact hq.2⟩
      have hpull := pull hF hr h
      refine stG_sound hr hpull x2 fun s' a' w' F' hr' h' => ?_
      refine ih (xs ++ ys) (by simp at hn ⊢; omega) (listed.setIfInBounds x.1 true) s' a' w' F' (by simpa using hsz) ?_ ?_ ?_ ?_ hr' h'
      · intro i oi hi hoi e he hb
        by_cases hix : x.1 = i
        · subst hix
          rw [x2] at hoi
          injection hoi with hoi
          subst hoi
          exact getD_set_true (hdone e he hb)
        · rw [getD_set_ne false hix] at hi
          exact getD_set_true (hcl i oi hi hoi e he hb)
      · exact List.pairwise_append.2 ⟨(List.pairwise_append.1 hp).1, (List.pairwise_cons.1 (List.pairwise_append.1 hp).2.1).2, fun y hy z hz => (List.pairwise_append.1 hp).2.2 y hy z (by simp [hz])⟩
      · intro y hy
        have hyR : y ∈ xs ++ x :: ys := by
          rcases List.mem_append.1 hy with hy | hy <;> simp [hy]
        obtain ⟨y1, y2, y3, y4⟩ := hR y hyR
        refine ⟨y1, y2, y3, ?_⟩
        have hne : x.1 ≠ y.1 := by
          rcases List.mem_append.1 hy with hy | hy
          · have := (List.pairwise_append.1 hp).2.2 y hy x (by simp); omega
          · have := (List.pairwise_cons.1 (List.pairwise_append.1 hp).2.1).1 y hy; omega
        rw [getD_set_ne true hne]
        exact y4
      · intro i hi hl
        by_cases hix : x.1 = i
        · subst hix
          have : x.1 < listed.size := by omega
          simp [this] at hl
        · rw [getD_set_ne true hix] at hl
          obtain ⟨y, hy, hyi⟩ := hall i hi hl
          refine ⟨y, ?_, hyi⟩
          simp only [List.mem_append, List.mem_cons] at hy ⊢
          rcases hy with hy | rfl | hy
          · exact .inl hy
          · exact absurd hyi hix
          · exact .inr hy

/-- The operations of a region with their places and tags. -/
def items (ops : Array Oper) (tags : List Tg) : List Item' := (ops.toList.zip tags).zipIdx.map fun p => (p.2, p.1.1, p.1.2)
theorem AW.draw {P : Program} {M : List Nat} {id : Nat} {ops : Array Oper} {Q : Exit → St → Prop} {s : St} (tags : List Tg) (hm : P.follows .mixedOrders = true) (hB : drawB ops tags = true) (h : wpD P M ops (items ops tags) s (Q .normal)) : AW P (.region id ops true) Q s := by
  intro B w F a hr
  refine wp_region_any hm ?_
  have hsz : ops.size = tags.length := by
    simp only [drawB, Bool.and_eq_true, beq_iff_eq] at hB
    exact hB.1.2
  have hr' : RepSt B s a { w with drawn := w.drawn + 1 } F :=
    ⟨hr.ws.trans ((Ext.drawn hr.ws.wf _).ws hr.ws.owns), hr.size, hr.defers, fun t => Rep.mono (w := w) (w' := { w with drawn := w.drawn + 1 }) (F' := F) (fun _ _ h => ⟨h, rfl⟩) _ _ (hr.tm t)⟩
  have hlen : (items ops tags).length = ops.size := by simp [items, hsz]
  have hget : ∀ x ∈ items ops tags, x.1 < ops.size ∧ ops[x.1]? = some x.2.1 ∧ x.2.2 = tags.getD x.1 .e := by
    intro x hx
    simp only [items, List.mem_map] at hx
    obtain ⟨⟨⟨o, t⟩, i⟩, hp, rfl⟩ := hx
    have h1 := List.mem_zipIdx_iff_getElem?.1 hp
    simp only at h1 ⊢
    rw [List.getElem?_zip_eq_some] at h1
    have hlt : i < ops.size := by
      have := (List.getElem?_eq_some_iff.1 h1.1).1
      simpa using this
    exact ⟨hlt, by simpa using h1.1, by rw [List.getD_eq_getElem?_getD, h1.2]; rfl⟩
  have := draw_sound (P := P) (M := M) hB (B := B) (K := Q .normal) (Q := fun e a' w' => ∃ s' F', RepSt B s' a' w' F' ∧ Q e s') (fun s' a' w' F' r k => ⟨s', F', r, k⟩) (items ops tags) (Array.replicate ops.size false) s a _ F (by simp)
    (fun j o hj ho e he hb => by
      rw [Array.getD_eq_getD_getElem?, Array.getElem?_replicate] at hj
      split at hj <;> simp at hj)
    (by
      simp only [items]
      rw [List.pairwise_map]
      have : ∀ (l : List (Oper × Tg)) (k : Nat), (l.zipIdx k).Pairwise fun x y => x.2 < y.2 := by
        intro l
        induction l with
        | nil => intro k; simp
        | cons x l ih =>
          intro k
          simp only [List.zipIdx_cons, List.pairwise_cons]
          refine ⟨fun y hy => ?_, ih (k + 1)⟩
          have := List.le_snd_of_mem_zipIdx hy
          omega
      exact this _ 0)
    (fun x hx => ⟨(hget x hx).1, (hget x hx).2.1, (hget x hx).2.2, by have := (hget x hx).1; simp [this]⟩)
    (fun i hi _ => by
      refine ⟨(i, ops[i], tags[i]'(by omega)), ?_, rfl⟩
      simp only [items, List.mem_map]
      refine ⟨((ops[i], tags[i]'(by omega)), i), ?_, rfl⟩
      refine List.mem_zipIdx_iff_getElem?.2 ?_
      simp only
      rw [List.getElem?_zip_eq_some]
      exact ⟨by simp [hi], by simp⟩)
    hr' h
  rwa [hlen] at this

/-! ### Bodies -/
/-- What a result variable holds. -/
def resA (P : Program) (s : St) : ResultVar → Option (Prop × AV)
  | .tmp t => some (True, s.tm t)
  | .cell t T => pvLoad P T (s.tm t) s.own
def resAs (P : Program) (s : St) : List ResultVar → Option (Prop × List AV)
  | [] => some (True, [])
  | r :: rs => match resA P s r, resAs P s rs with
    | some (c, d), some (c', ds) => some (c ∧ c', d :: ds)
    | _, _ => none
def tupA : List AV → AV
  | [d] => d
  | ds => .tup ds
/-- What a body comes to at its end. -/
def endA (P : Program) (rs : List ResultVar) (K : AV → Own → Prop) (s : St) : Prop := match resAs P s rs with
  | some (c, ds) => c ∧ K (tupA ds) s.own
  | none => False
def bodyQ (P : Program) (rs : List ResultVar) (K : AV → Own → Prop) : Exit → St → Prop
  | .normal, s | .ret, s => endA P rs K s
  | _, _ => False

theorem resAs_sound {P : Program} {B : Base} {s : St} {a : Act} {w : World} {F : Frz} (hr : RepSt B s a w F) : ∀ {rs : List ResultVar} {c : Prop} {ds : List AV}, resAs P s rs = some (c, ds) → c →
    ∃ vs : List Value, (rs.mapM fun r => (match r with | .tmp t => pure (a.tmps.getD t undef) | .cell t T => (do loadVar T (← asAddr (a.tmps.getD t undef))) : Sem Value)).run P w = .ok vs w ∧ Reps w F ds vs
  | [], c, ds, h, hc => by
    simp only [resAs] at h
    injection h with h; injection h with _ h; subst h
    exact ⟨[], by simp, by simp [Reps]⟩
  | r :: rs, c, ds, h, hc => by
    simp only [resAs] at h
    split at h
    · rename_i c1 d c2 ds' h1 h2
      injection h with h; injection h with h3 h; subst h; subst h3
      obtain ⟨vs, g1, g2⟩ := resAs_sound hr h2 hc.2
      have hone : ∃ v, ((match r with | .tmp t => pure (a.tmps.getD t undef) | .cell t T => (do loadVar T (← asAddr (a.tmps.getD t undef))) : Sem Value)).run P w = .ok v w ∧ Rep w F d v := by
        cases r with
        | tmp t =>
          simp only [resA] at h1
          injection h1 with h1; injection h1 with _ h1; subst h1
          exact ⟨_, rfl, hr.tm t⟩
        | cell t T =>
          simp only [resA] at h1
          have hs := pv_sound (P := P) (mu := false) (o := ⟨none, .load T (.tmp t), 0, "", #[], none⟩) (ρ := s.ev) (own := s.own) (c := c1) (d := d) h1 hc.1
          have := hs w F a.eval hr.ws.wf hr.ws.owns fun x _ => hr.ev x
          have e1 : ∃ k off, a.tmps.getD t undef = .pointer (some ⟨k, off, none⟩) := by
            have ht := hr.tm t
            unfold pvLoad loadA at h1
            split at h1
            · split at h1
              · rename_i hd; rw [hd] at ht; simp only [Rep] at ht; obtain ⟨k, off, x, e, _⟩ := ht; exact ⟨k, off, e⟩
              · rename_i k off hd; rw [hd] at ht; simp only [Rep] at ht; exact ⟨k, off, ht.1⟩
              · cases h1
            · cases h1
          obtain ⟨k, off, e1⟩ := e1
          unfold OpRes at this
          have e2 : (execOp a.eval ⟨none, .load T (.tmp t), 0, "", #[], none⟩).run P w = ((loadVar T ⟨k, off, none⟩).run P w).andThen fun v w' => .ok (.value v) w' := by
            simp only [execOp, Act.eval, e1, Instr.loadAt, Instr.sureAddr, Sem.run_bind, Sem.run_pure, Result.andThen_ok]
          obtain ⟨v, hv, hrep⟩ : ∃ v, (loadVar T ⟨k, off, none⟩).run P w = .ok v w ∧ Rep w F d v := by
            -- loads leave the world alone
            obtain ⟨i, hi⟩ : ∃ i, ti P T = some i := by
              unfold pvLoad at h1
              split at h1
              · rename_i i hi; exact ⟨i, hi⟩
              · cases h1
            have hl := vs_load_run (P := P) (w := w) (F := F) (own := s.own) (T := T) (d := d) (c := c1) hi (by unfold pvLoad at h1; rw [hi] at h1; exact h1) hc.1 hr.ws.owns (e1 ▸ hr.tm t)
            exact hl
          refine ⟨v, ?_, hrep⟩
          simp only [e1, asAddr, Sem.run_bind, Sem.run_pure, Result.andThen_ok, hv]
      obtain ⟨v, v1, v2⟩ := hone
      refine ⟨v :: vs, ?_, by simp only [Reps]; exact ⟨v, vs, rfl, v2, g2⟩⟩
      rw [List.mapM_cons, Sem.run_bind, v1, Result.andThen_ok, Sem.run_bind, g1]
      rfl
    · cases h

def argTm (args : List AV) (t : Nat) : AV := (args[t]?).getD .any
def startA (n : Nat) (args : List AV) (own : Own) : St := ⟨n, argTm args, own⟩

theorem AC.of_body {P : Program} {f : Nat} {fn : Func} {c : Code} {M : List Nat} {args : List AV} {own : Own} {K : AV → Own → Prop} (hf : P.funcs[f]? = some fn) (hb : fn.body = some c) (hn : (fn.name == "runtime.NumGoroutine") = false) (ha : args.length ≤ fn.ntmps)
    (h : wpC P M c (bodyQ P fn.results.toList K) (startA fn.ntmps args own)) : AC P f args own K := by
  intro w F vs hwf ho hr
  have hrun : (callFunc f vs.toArray).run P w = .ok (.enter f vs.toArray) w := by
    simp only [callFunc, Sem.run_bind, run_program, Result.andThen_ok, hf]
    rw [if_neg (by rw [hn]; simp)]
    rw [if_neg (by rw [hb]; simp)]
    rfl
  unfold CallRes
  rw [hrun]
  refine calls_of_wp hf hb ?_
  have hlen := hr.length
  have hrep : RepSt ⟨w, F, own⟩ (startA fn.ntmps args own) { tmps := vs.toArray ++ Array.replicate (fn.ntmps - vs.toArray.size) undef, defers := [] } w F := by
    refine ⟨(Ext.refl hwf).ws ho, by simp [startA]; omega, rfl, fun t => ?_⟩
    simp only [startA, argTm]
    cases hd : args[t]? with
    | none => simp [Rep]
    | some d =>
      obtain ⟨x, hx, hx2⟩ := hr.get t d hd
      have hlt : t < vs.length := (List.getElem?_eq_some_iff.1 hx).1
      simp only [Option.getD_some]
      rw [Array.getD_eq_getD_getElem?, Array.getElem?_append_left (by simpa using hlt)]
      simpa [hx] using hx2
  have hend : ∀ {s' : St} {a' : Act} {w' : World} {F' : Frz}, RepSt ⟨w, F, own⟩ s' a' w' F' → endA P fn.results.toList K s' → a'.defers = [] ∧ ∃ v, (results fn a'.tmps).run P w' = .ok v w' ∧ ∃ v_1, Ending.returned v = .returned v_1 ∧ ∃ F' d own', WS ⟨w, F, own⟩ w' F' own' ∧ Rep w' F' d v_1 ∧ K d own' := by
    intro s' a' w' F' r q
    unfold endA at q
    split at q
    · rename_i c ds hres
      obtain ⟨us, u1, u2⟩ := resAs_sound r hres q.1
      refine ⟨r.defers, (if h : us.length = 1 then us[0] else .tuple us.toArray), ?_, _, rfl, F', tupA ds, s'.own, r.ws, ?_, q.2⟩
      · unfold results
        rw [Sem.run_bind, Array.mapM_eq_mapM_toList, Sem.run_map]
        refine Eq.trans (congrArg (fun r : Result (List Value) => (r.andThen fun a w' => Result.ok a.toArray w').andThen fun a w' => Sem.run P (pure (if h : a.size = 1 then a[0] else Value.tuple a)) w') u1) ?_
        simp only [Result.andThen_ok, Sem.run_pure, List.size_toArray]
        split <;> rfl
      · have hul := u2.length
        unfold tupA
        split
        · rename_i d
          simp only [Reps] at u2
          obtain ⟨x, xs, rfl, hx, rfl⟩ := u2
          simpa using hx
        · rename_i ds' hne
          have : us.length ≠ 1 := by
            intro h1
            rw [hul] at h1
            cases ds with
            | nil => simp at h1
            | cons d ds => cases ds with
              | nil => exact hne d rfl
              | cons e es => simp at h1
          rw [dif_neg this]
          simp only [Rep]
          exact ⟨us, rfl, u2⟩
    · exact q.elim
  refine wp_mono (wpC_sound h _ w F _ hrep) ?_
  rintro e a' w' ⟨s', F', r, q⟩
  cases e with
  | normal => exact hend r q
  | ret => exact hend r q
  | _ => exact q.elim

theorem PC.of_ac {P : Program} {f : Nat} {args : List AV} {d : AV} (h : AC P f args noOwn fun d' own' => d' = d) : PC P f args d :=
  fun w F vs hf hr => (h w F vs hf (fun _ _ h => by cases h) hr).mono fun v w' ⟨F', d', own', a, b, c⟩ => ⟨F', Ext.of_ws a, c ▸ b⟩
end Go.Proofs.Ytenfgknhongaaaa.Hl
