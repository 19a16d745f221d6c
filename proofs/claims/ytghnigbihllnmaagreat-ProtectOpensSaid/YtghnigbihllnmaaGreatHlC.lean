/- A program logic with abstract values over the model, part 3: loops, drawn regions, the symbolic run. -/
import Derived.Test.YtghnigbihllnmaaGreatHlB
import Derived.Deep.LoopGhost
import Derived.Attr
import Derived.LoopN
set_option linter.unusedVariables false
set_option linter.unusedSimpArgs false
/- States of a frame, code, loops, regions in any order, bodies. No condition. -/
set_option linter.unusedVariables false
set_option linter.unusedSimpArgs false

namespace Go.Proofs.YtghnigbihllnmaaGreat.Hl
open Go

structure St where
  n : Nat
  tm : Nat → AV
  own : Own
def upd (f : Nat → AV) (t : Nat) (d : AV) (j : Nat) : AV := if j = t then d else f j
theorem upd_same (f : Nat → AV) (t : Nat) (d : AV) : upd f t d t = d := if_pos rfl
theorem upd_ne (f : Nat → AV) {t j : Nat} (d : AV) (h : j ≠ t) : upd f t d j = f j := if_neg h
theorem upd_comm (f : Nat → AV) {t u : Nat} (d e : AV) (h : t ≠ u) : upd (upd f t d) u e = upd (upd f u e) t d := by
  funext j
  simp only [upd]
  split <;> split <;> first | rfl | (exfalso; omega)

def constA (v : Value) : AV := match v with
  | .agg _ | .tuple _ => .any
  | v => .raw v
def St.ev (s : St) : Operand → AV
  | .tmp t => s.tm t
  | .const v => constA v
  | .global g => .raw (.pointer (some ⟨g, 0, none⟩))
  | .func f => .clo (.func f) [] []
/-- Holds a continuation back from the symbolic run. -/
abbrev HoldS (K : St → Prop) : Type := Unit
def St.puts (s : St) (dst : Option Nat) (d : AV) (own : Own) (K : St → Prop) (_ : HoldS K := ()) : Prop := match dst with
  | none => K ⟨s.n, s.tm, own⟩
  | some t => t < s.n ∧ K ⟨s.n, upd s.tm t d, own⟩

structure RepSt (B : Base) (s : St) (a : Act) (w : World) (F : Frz) : Prop where
  ws : WS B w F s.own
  size : a.tmps.size = s.n
  defers : a.defers = []
  tm : ∀ t, Rep w F (s.tm t) (a.tmps.getD t undef)

theorem RepSt.ev {B : Base} {s : St} {a : Act} {w : World} {F : Frz} (h : RepSt B s a w F) (x : Operand) : Rep w F (s.ev x) (a.eval x) := by
  cases x with
  | tmp t => exact h.tm t
  | const v => simp only [St.ev, Act.eval]; cases v <;> simp [constA, Rep, Value.oneCell']
  | global g => simp [St.ev, Act.eval, Rep, Value.oneCell']
  | func f => simp [St.ev, Act.eval, Rep, Reps]

theorem RepSt.put {B : Base} {s : St} {a : Act} {w w' : World} {F F' : Frz} {own' : Own} (h : RepSt B s a w F) (hw : WS ⟨w, F, s.own⟩ w' F' own') {d : AV} {v : Value} (hv : Rep w' F' d v) {dst : Option Nat} {K : St → Prop} (hk : s.puts dst d own' K) :
    ∃ s', RepSt B s' (a.put dst v) w' F' ∧ K s' := by
  cases dst with
  | none => exact ⟨⟨s.n, s.tm, own'⟩, ⟨h.ws.trans hw, h.size, h.defers, fun t => Rep.mono hw.kept _ _ (h.tm t)⟩, hk⟩
  | some t =>
    obtain ⟨ht, hk⟩ := hk
    refine ⟨_, ⟨h.ws.trans hw, by simpa [Act.put] using h.size, h.defers, fun j => ?_⟩, hk⟩
    simp only [Act.put, upd]
    by_cases hj : j = t
    · subst hj
      rw [if_pos rfl]
      have : j < a.tmps.size := by rw [h.size]; exact ht
      simpa [Array.getD_eq_getD_getElem?, this] using hv
    · rw [if_neg hj]
      have := Rep.mono hw.kept _ _ (h.tm j)
      rw [Array.getD_eq_getD_getElem?] at this ⊢
      rwa [Array.getElem?_setIfInBounds_ne (Ne.symm hj)]

/-! ### Operations in a frame -/
inductive Tg where
  | v | r | e
  | c (d : AV)
def stE (P : Program) (mu : Bool) (o : Oper) (tg : Tg) (ρ : Operand → AV) (own : Own) (K : AV → Own → Prop) : Prop := match tg with
  | .v => match pv P mu o.op ρ noOwn with
    | some (c, d) => c ∧ K d own
    | none => False
  | .r => match pv P mu o.op ρ own with
    | some (c, d) => c ∧ K d own
    | none => False
  | .c d => VSem P o ρ noOwn d ∧ K d own
  | .e => eff P mu o ρ own K
theorem stE_sound {P : Program} {mu : Bool} {o : Oper} {tg : Tg} {ρ : Operand → AV} {own : Own} {K : AV → Own → Prop} (h : stE P mu o tg ρ own K) : ESem P o ρ own K := by
  cases tg with
  | v =>
    simp only [stE] at h
    split at h
    · rename_i c d hp; exact ESem.of_V (pv_sound hp h.1).owned h.2
    · exact h.elim
  | r =>
    simp only [stE] at h
    split at h
    · rename_i c d hp; exact ESem.of_V (pv_sound hp h.1) h.2
    · exact h.elim
  | e => exact eff_sound h
  | c d => exact ESem.of_V h.1.owned h.2
theorem stE_congr {P : Program} {mu : Bool} {o : Oper} {tg : Tg} {ρ ρ' : Operand → AV} {own : Own} {K : AV → Own → Prop} (he : ∀ x ∈ o.op.operands, ρ' x = ρ x) : stE P mu o tg ρ' own K = stE P mu o tg ρ own K := by
  cases tg with
  | v => simp only [stE, pv_congr he]
  | r => simp only [stE, pv_congr he]
  | e => exact eff_congr he
  | c d =>
    simp only [stE]
    have : VSem P o ρ' noOwn d = VSem P o ρ noOwn d := propext ⟨fun h => h.congr fun x hx => (he x hx).symm, fun h => h.congr he⟩
    rw [this]

def memB : List Nat → Nat → Bool
  | [], _ => false
  | k :: l, t => if t = k then true else memB l t
def muOf (M : List Nat) (dst : Option Nat) : Bool := match dst with
  | some t => memB M t
  | none => false
def gv (ops : Array Oper) (s : St) (j : Nat) : AV := match (ops[j]?).bind (·.dst) with
  | some t => s.tm t
  | none => .any
/-- What a guard says: an answer; that its operation was not run; nothing. -/
def gq : AV → Option (Option Bool)
  | .raw (.bool t) => some (some t)
  | .tup [] => some none
  | _ => none
/-- Holds its argument back from the symbolic run. -/
abbrev Hold (A : Prop) : Type := Unit
/-- A branch that the symbolic run does not look into. -/
def Br (t : Bool) (A B : Prop) (_ : Hold A := ()) (_ : Hold B := ()) : Prop := if t = true then A else B
theorem Br_true (A B : Prop) (hA : Hold A) (hB : Hold B) : Br true A B hA hB = A := if_pos rfl
theorem Br_false (A B : Prop) (hA : Hold A) (hB : Hold B) : Br false A B hA hB = B := if_neg (by decide)
theorem Br_pos {t : Bool} {A B : Prop} {hA : Hold A} {hB : Hold B} (h : t = true) : Br t A B hA hB = A := by rw [h]; exact Br_true A B hA hB
theorem Br_neg {t : Bool} {A B : Prop} {hA : Hold A} {hB : Hold B} (h : t = false) : Br t A B hA hB = B := by rw [h]; exact Br_false A B hA hB
theorem Br.of {t : Bool} {A B : Prop} {hA : Hold A} {hB : Hold B} (h1 : t = true → A) (h2 : t = false → B) : Br t A B hA hB := by
  cases t
  · rw [Br_false]; exact h2 rfl
  · rw [Br_true]; exact h1 rfl
def BrG (t want : Bool) (A B : Prop) : Prop := match want with
  | true => Br t A B
  | false => Br t B A
theorem BrG_iff (t want : Bool) (A B : Prop) : BrG t want A B ↔ if t = want then A else B := by
  cases t <;> cases want <;> simp [BrG, Br]
def stG (P : Program) (M : List Nat) (ops : Array Oper) (o : Oper) (tg : Tg) (s : St) (K : St → Prop) : Prop :=
  match o.guard with
  | none => stE P (muOf M o.dst) o tg s.ev s.own fun d own' => s.puts o.dst d own' K
  | some (j, want) => match gq (gv ops s j) with
    | some (some t) => BrG t want (stE P (muOf M o.dst) o tg s.ev s.own fun d own' => s.puts o.dst d own' K) (s.puts o.dst (.tup []) s.own K)
    | some none => s.puts o.dst (.tup []) s.own K
    | none => False
theorem gq_bool {x : AV} {t : Bool} (h : gq x = some (some t)) : x = .raw (.bool t) := by
  unfold gq at h
  split at h
  · injection h with h; injection h with h; subst h; rfl
  · injection h with h; cases h
  · cases h
theorem gq_skip {x : AV} (h : gq x = some none) : x = .tup [] := by
  unfold gq at h
  split at h
  · injection h with h; cases h
  · rfl
  · cases h

/-- The guard's answer in the model. -/
theorem gv_wanted {B : Base} {s : St} {a : Act} {w : World} {F : Frz} (h : RepSt B s a w F) {ops : Array Oper} {j : Nat} {t : Bool} (hg : gv ops s j = .raw (.bool t)) : yielded ops a.tmps j = some t := by
  unfold gv at hg
  unfold yielded
  cases hd : (ops[j]?).bind (·.dst) with
  | none => rw [hd] at hg; cases hg
  | some u =>
    rw [hd] at hg
    simp only at hg
    have := h.tm u
    rw [hg] at this
    simp only [Rep] at this
    simp only [Option.bind_some]
    rw [Array.getD_eq_getD_getElem?] at this
    cases hu : a.tmps[u]? with
    | none => rw [hu] at this; simp [undef] at this
    | some x => rw [hu] at this; simp at this; simp [this]

theorem gv_skipped {B : Base} {s : St} {a : Act} {w : World} {F : Frz} (h : RepSt B s a w F) {ops : Array Oper} {j : Nat} (hg : gv ops s j = .tup []) : yielded ops a.tmps j = none := by
  unfold gv at hg
  unfold yielded
  cases hd : (ops[j]?).bind (·.dst) with
  | none => rfl
  | some u =>
    rw [hd] at hg
    simp only at hg
    have := h.tm u
    rw [hg] at this
    simp only [Rep] at this
    simp only [Option.bind_some]
    rw [Array.getD_eq_getD_getElem?] at this
    cases hu : a.tmps[u]? with
    | none => rfl
    | some x =>
      rw [hu] at this
      simp at this
      obtain ⟨xs, rfl, _⟩ := this
      rfl

theorem stG_sound {P : Program} {M : List Nat} {ops : Array Oper} {o : Oper} {tg : Tg} {B : Base} {s : St} {a : Act} {w : World} {F : Frz} {K : St → Prop} (hr : RepSt B s a w F) (h : stG P M ops o tg s K) {i : Nat} (ho : ops[i]? = some o) {Q : Exit → Act → World → Prop} {next : Act → World → Prop}
    (hk : ∀ s' a' w' F', RepSt B s' a' w' F' → K s' → next a' w') : wpOp P ops Q i next a w := by
  have main : ∀ {tg}, stE P (muOf M o.dst) o tg s.ev s.own (fun d own' => s.puts o.dst d own' K) → o.wp P a w next Q := by
    intro tg h
    refine OpRes.wp (stE_sound h w F a.eval hr.ws.wf hr.ws.owns fun x _ => hr.ev x) ?_
    rintro v w' ⟨F', d, own', h1, h2, h3⟩
    obtain ⟨s', r1, r2⟩ := hr.put h1 h2 h3
    exact hk _ _ _ _ r1 r2
  unfold wpOp
  simp only [ho]
  unfold stG at h
  split at h
  · rename_i hg
    simp only [Region.wanted, hg, if_true]
    exact .inl (main h)
  · rename_i j want hg
    split at h
    · rename_i t ht
      have hy := gv_wanted hr (gq_bool ht)
      simp only [Region.wanted, hg, hy]
      rw [BrG_iff] at h
      by_cases htw : t = want
      · subst htw
        rw [if_pos rfl] at h
        rw [if_pos (by simp)]
        exact .inl (main h)
      · rw [if_neg htw] at h
        rw [if_neg (by simp [htw])]
        obtain ⟨s', r1, r2⟩ := hr.put hr.ws.here (d := .tup []) (v := undef) (by simp [Rep, Reps, undef]) h
        exact hk _ _ _ _ r1 r2
    · rename_i ht
      have hy := gv_skipped hr (gq_skip ht)
      simp only [Region.wanted, hg, hy]
      rw [if_neg (by simp)]
      obtain ⟨s', r1, r2⟩ := hr.put hr.ws.here (d := .tup []) (v := undef) (by simp [Rep, Reps, undef]) h
      exact hk _ _ _ _ r1 r2
    · exact h.elim

/-- The operations of a region in the order of the text. -/
def wpL (P : Program) (M : List Nat) (ops : Array Oper) : List Oper → St → (St → Prop) → Prop
  | [], s, K => K s
  | o :: rest, s, K => stG P M ops o .e s fun s' => wpL P M ops rest s' K

theorem wpL_sound {P : Program} {M : List Nat} {ops : Array Oper} {B : Base} {Q : Exit → Act → World → Prop} {K : St → Prop} (hk : ∀ s' a' w' F', RepSt B s' a' w' F' → K s' → Q .normal a' w') :
    ∀ (l : List Oper) (k : Nat) (s : St) (a : Act) (w : World) (F : Frz), (∀ j, l[j]? = ops[k + j]?) → RepSt B s a w F → wpL P M ops l s K → wpOps P ops Q (List.range' k l.length) a w
  | [], k, s, a, w, F, _, hr, h => by simpa [wpOps] using hk _ _ _ _ hr h
  | o :: l, k, s, a, w, F, hl, hr, h => by
    have h0 : ops[k]? = some o := by simpa using (hl 0).symm
    simp only [List.length_cons, List.range'_succ]
    rw [wpOps_cons]
    refine stG_sound hr h h0 fun s' a' w' F' hr' h' => ?_
    exact wpL_sound hk l (k + 1) s' a' w' F' (fun j => by have := hl (j + 1); simpa [Nat.add_assoc, Nat.add_comm 1 j] using this) hr' h'

/-! ### Code -/
def AW (P : Program) (c : Code) (Q : Exit → St → Prop) (s : St) : Prop :=
  ∀ B w F a, RepSt B s a w F → c.wp P (fun e a' w' => ∃ s' F', RepSt B s' a' w' F' ∧ Q e s') a w
def thenA (next : St → Prop) (Q : Exit → St → Prop) : Exit → St → Prop
  | .normal, s => next s
  | e, s => Q e s
def inBlockA (id : Nat) (Q : Exit → St → Prop) : Exit → St → Prop
  | .exit id', s => if id' = id then Q .normal s else Q (.exit id') s
  | e, s => Q e s
def wpC (P : Program) (M : List Nat) : Code → (Exit → St → Prop) → St → Prop
  | .skip, Q, s => Q .normal s
  | .region id ops true, Q, s => AW P (.region id ops true) Q s
  | .region _ ops false, Q, s => wpL P M ops ops.toList s (Q .normal)
  | .seq a b, Q, s => wpC P M a (thenA (wpC P M b Q) Q) s
  | .cond c x y, Q, s => match s.ev c with
    | .raw (.bool t) => Br t (wpC P M x Q s) (wpC P M y Q s)
    | _ => False
  | .block id b, Q, s => wpC P M b (inBlockA id Q) s
  | .exit id, Q, s => Q (.exit id) s
  | .ret, Q, s => Q .ret s
  | c, Q, s => AW P c Q s

theorem AW.mono {P : Program} {c : Code} {Q Q' : Exit → St → Prop} {s : St} (h : AW P c Q s) (hq : ∀ e s, Q e s → Q' e s) : AW P c Q' s :=
  fun B w F a hr => wp_mono (h B w F a hr) fun e a w ⟨s', F', r, q⟩ => ⟨s', F', r, hq _ _ q⟩

theorem AW.seq {P : Program} {x y : Code} {Q : Exit → St → Prop} {s : St} (h : AW P x (thenA (AW P y Q) Q) s) : AW P (.seq x y) Q s := by
  intro B w F a hr
  refine wp_seq (wp_mono (h B w F a hr) ?_)
  rintro e a' w' ⟨s', F', r, q⟩
  cases e with
  | normal => exact q B w' F' a' r
  | _ => exact ⟨s', F', r, q⟩
theorem AW.block {P : Program} {id : Nat} {c : Code} {Q : Exit → St → Prop} {s : St} (h : AW P c (inBlockA id Q) s) : AW P (.block id c) Q s := by
  intro B w F a hr
  refine wp_block (wp_mono (h B w F a hr) ?_)
  rintro e a' w' ⟨s', F', r, q⟩
  cases e with
  | exit id' =>
    simp only [inBlockA] at q
    simp only [Exit.inBlock]
    split at q
    · rw [if_pos ‹_›]; exact ⟨s', F', r, q⟩
    · rw [if_neg ‹_›]; exact ⟨s', F', r, q⟩
  | _ => exact ⟨s', F', r, q⟩
theorem AW.region {P : Program} {M : List Nat} {id : Nat} {ops : Array Oper} {Q : Exit → St → Prop} {s : St} (h : wpL P M ops ops.toList s (Q .normal)) : AW P (.region id ops false) Q s := by
  intro B w F a hr
  refine wp_region ?_
  have := wpL_sound (Q := fun e a' w' => ∃ s' F', RepSt B s' a' w' F' ∧ Q e s') (fun s' a' w' F' r k => ⟨s', F', r, k⟩) ops.toList 0 s a w F (fun j => by simp) hr h
  rw [List.range_eq_range']
  simpa using this

theorem wpC_sound {P : Program} {M : List Nat} : ∀ {c : Code} {Q : Exit → St → Prop} {s : St}, wpC P M c Q s → AW P c Q s := by
  intro c
  induction c with
  | skip => exact fun h B w F a hr => wp_skip ⟨_, F, hr, h⟩
  | region id ops draw =>
    intro Q s h
    cases draw
    · exact AW.region h
    · exact h
  | seq x y ihx ihy =>
    intro Q s h
    refine AW.seq ((ihx h).mono fun e s' q => ?_)
    cases e with
    | normal => exact ihy q
    | _ => exact q
  | cond c x y ihx ihy =>
    intro Q s h
    simp only [wpC] at h
    split at h
    · rename_i t ht
      intro B w F a hr
      have h1 := hr.ev c
      rw [ht] at h1
      simp only [Rep] at h1
      cases t
      · rw [Br_false] at h; exact wp_cond_false h1.1 (ihy h B w F a hr)
      · rw [Br_true] at h; exact wp_cond_true h1.1 (ihx h B w F a hr)
    · exact h.elim
  | block id b ih => exact fun h => AW.block (ih h)
  | exit id => exact fun h B w F a hr => wp_exit ⟨_, F, hr, h⟩
  | ret => exact fun h B w F a hr => wp_ret ⟨_, F, hr, h⟩
  | _ => exact fun h => h

/-! ### Seeing a state in a weaker way -/
/-- Every slot that s' speaks of is as in s (or not spoken of), and the objects of s' are objects of s. -/
structure Le (s s' : St) : Prop where
  n : s.n = s'.n
  tm : ∀ t, s'.tm t = .any ∨ s.tm t = s'.tm t
  own : ∀ k o, s'.own k = some o → s.own k = some o
theorem RepSt.le {B : Base} {s s' : St} {a : Act} {w : World} {F : Frz} (h : RepSt B s a w F) (hl : Le s s') : RepSt B s' a w F :=
  ⟨h.ws.drop hl.own, h.size.trans hl.n, h.defers, fun t => by
    rcases hl.tm t with e | e
    · rw [e]; simp [Rep]
    · rw [← e]; exact h.tm t⟩
theorem AW.le {P : Program} {c : Code} {Q : Exit → St → Prop} {s s' : St} (hl : Le s s') (h : AW P c Q s') : AW P c Q s :=
  fun B w F a hr => h B w F a (hr.le hl)
/-- A ghost step: the same frame, seen as another state. -/
def Ghost (s s' : St) : Prop := ∀ B w F a, RepSt B s a w F → ∃ F', RepSt B s' a w F'
theorem AW.ghost {P : Program} {c : Code} {Q : Exit → St → Prop} {s s' : St} (hl : Ghost s s') (h : AW P c Q s') : AW P c Q s :=
  fun B w F a hr => by obtain ⟨F', hr'⟩ := hl B w F a hr; exact h B w F' a hr'
theorem Le.ghost {s s' : St} (h : Le s s') : Ghost s s' := fun B w F a hr => ⟨F, hr.le h⟩
theorem Ghost.trans {s s1 s2 : St} (h : Ghost s s1) (h' : Ghost s1 s2) : Ghost s s2 := fun B w F a hr => by
  obtain ⟨F1, h1⟩ := h B w F a hr
  exact h' B w F1 a h1

/-! ### Loops -/
theorem AW.loop {P : Program} {c : Code} {Q : Exit → St → Prop} {s : St} {X : Type} (I : X → St) (μ : X → Nat) (x0 : X) (h0 : Ghost s (I x0))
    (hr : ∀ x, AW P c (thenA (fun s' => ∃ x', Ghost s' (I x') ∧ μ x' < μ x) Q) (I x)) : AW P (.loop c) Q s := by
  intro B w F a hrep
  obtain ⟨F0, hrep⟩ := h0 B w F a hrep
  refine wp_loop_ghost (fun n a w => ∃ x F, μ x = n ∧ RepSt B (I x) a w F) (μ x0) ⟨x0, F0, rfl, hrep⟩ ?_
  rintro n a w ⟨x, F, rfl, hI⟩
  refine wp_mono (hr x B w F a hI) ?_
  rintro e a' w' ⟨s', F', r, q⟩
  cases e with
  | normal =>
    obtain ⟨x', hg, hlt⟩ := q
    obtain ⟨F2, r2⟩ := hg B w' F' a' r
    exact ⟨μ x', hlt, x', F2, rfl, r2⟩
  | _ => exact ⟨s', F', r, q⟩

/-- A loop: 'I x' is the state at a round's head, 'J x' what holds of x, 'μ' goes down. -/
theorem AW.loopJ {P : Program} {M : List Nat} {c : Code} {Q : Exit → St → Prop} {s : St} {X : Type} (I : X → St) (J : X → Prop) (μ : X → Nat) (x0 : X) (hJ : J x0) (h0 : Ghost s (I x0))
    (hr : ∀ x, J x → wpC P M c (thenA (fun s' => ∃ x', J x' ∧ Ghost s' (I x') ∧ μ x' < μ x) Q) (I x)) : AW P (.loop c) Q s := by
  refine AW.loop (X := { x : X // J x }) (fun x => I x.1) (fun x => μ x.1) ⟨x0, hJ⟩ h0 fun x => ?_
  refine (wpC_sound (hr x.1 x.2)).mono fun e s' q => ?_
  cases e with
  | normal => obtain ⟨x', h1, h2, h3⟩ := q; exact ⟨⟨x', h1⟩, h2, h3⟩
  | _ => exact q

/-! ### A region whose order is drawn -/
/-- Operation i has to come before operation j. -/
def reachB (ops : Array Oper) : Nat → Nat → Nat → Bool
  | 0, _, _ => false
  | fuel + 1, i, j => match ops[j]? with
    | some o => o.after.toList.any fun e => Region.binds .any e && (e.on == i || reachB ops fuel i e.on)
    | none => false
def compatT (x y : Tg) : Bool := match x, y with
  | .e, .e | .e, .r | .r, .e => false
  | _, _ => true
/-- Everything is found in order: each edge leads back, and what is not ordered is apart. -/
def drawB (ops : Array Oper) (tags : List Tg) : Bool :=
  Region.noSelect ops && ops.size == tags.length &&
  (List.range ops.size).all fun j => match ops[j]? with
    | none => false
    | some oj => oj.after.toList.all (fun e => !Region.binds .any e || decide (e.on < j)) &&
      (List.range j).all fun i => match ops[i]? with
        | none => false
        | some oi => reachB ops ops.size i j || (oi.apart ops oj && compatT (tags.getD i .e) (tags.getD j .e))

abbrev Item' := Nat × Oper × Tg
def wpD (P : Program) (M : List Nat) (ops : Array Oper) : List Item' → St → (St → Prop) → Prop
  | [], s, K => K s
  | (_, o, tg) :: rest, s, K => stG P M ops o tg s fun s' => wpD P M ops rest s' K

theorem ev_put {s : St} {t : Nat} {d : AV} {own : Own} {x : Operand} (h : x ≠ .tmp t) : (⟨s.n, upd s.tm t d, own⟩ : St).ev x = s.ev x := by
  cases x with
  | tmp u => simp only [St.ev]; exact upd_ne _ _ fun e => h (e ▸ rfl)
  | _ => rfl

/-- The state with a slot written. -/
def St.at (s : St) (dst : Option Nat) (d : AV) : St := match dst with
  | none => s
  | some t => ⟨s.n, upd s.tm t d, s.own⟩
theorem at_own (s : St) (dst : Option Nat) (d : AV) : (s.at dst d).own = s.own := by cases dst <;> rfl
theorem at_n (s : St) (dst : Option Nat) (d : AV) : (s.at dst d).n = s.n := by cases dst <;> rfl
theorem at_ev {ops : Array Oper} {oi oj : Oper} (hd : ∀ t, oi.dst = some t → t ∉ oj.looksAt ops) (s : St) (d : AV) : ∀ x ∈ oj.op.operands, (s.at oi.dst d).ev x = s.ev x := by
  intro x hx
  cases hi : oi.dst with
  | none => rfl
  | some t =>
    refine ev_put fun e => hd t hi ?_
    subst e
    unfold Oper.looksAt
    exact List.mem_append.2 (.inl (List.mem_filterMap.2 ⟨.tmp t, by simpa using hx, rfl⟩))
theorem at_gv {ops : Array Oper} {oi oj : Oper} (hd : ∀ t, oi.dst = some t → t ∉ oj.looksAt ops) (s : St) (d : AV) {j : Nat} {want : Bool} (hg : oj.guard = some (j, want)) : gv ops (s.at oi.dst d) j = gv ops s j := by
  unfold gv
  cases hu : (ops[j]?).bind (·.dst) with
  | none => rfl
  | some u =>
    simp only
    cases hi : oi.dst with
    | none => rfl
    | some t =>
      refine upd_ne _ _ fun e => hd t hi ?_
      subst e
      unfold Oper.looksAt
      exact List.mem_append.2 (.inr (by rw [hg]; simp [hu]))

/-- 'puts' behind a slot that something else writes. -/
theorem puts_at {s : St} {oi oj : Option Nat} {di dj : AV} {own : Own} {K : St → Prop} (hne : ∀ t, oi = some t → oj ≠ some t) (h : s.puts oj dj own fun s' => K (s'.at oi di)) : (s.at oi di).puts oj dj own K := by
  cases oi with
  | none => exact h
  | some t =>
    cases oj with
    | none => exact h
    | some u =>
      obtain ⟨h1, h2⟩ := h
      refine ⟨h1, ?_⟩
      simp only [St.at] at h2 ⊢
      rwa [upd_comm _ _ _ fun e => hne t rfl (by rw [e])] at h2
theorem puts_mono {s : St} {dst : Option Nat} {d : AV} {own : Own} {K K' : St → Prop} (h : s.puts dst d own K) (hk : ∀ s', s'.n = s.n → s'.own = own → (∀ t, dst ≠ some t → s'.tm t = s.tm t) → K s' → K' s') : s.puts dst d own K' := by
  cases dst with
  | none => exact hk _ rfl rfl (fun _ _ => rfl) h
  | some t => exact ⟨h.1, hk _ rfl rfl (fun u hu => upd_ne _ _ fun e => hu (by rw [e])) h.2⟩
theorem AC.mono' {P : Program} {f : Nat} {args : List AV} {own : Own} {K K' : AV → Own → Prop} (h : ACs P f args own K) (hk : ∀ d own', K d own' → K' d own') : ACs P f args own K' := AC.mono h hk
theorem effE_mono {P : Program} {o : Oper} {ρ : Operand → AV} {own : Own} {K K' : AV → Own → Prop} (h : effE P o ρ own K) (hk : ∀ d own', K d own' → K' d own') : effE P o ρ own K' := by
  unfold effE at *
  split at h
  · unfold allocE at *; split at h; exact ⟨h.1, fun k hk' => hk _ _ (h.2 k hk')⟩; exact h.elim
  · exact ⟨h.1, fun k hk' => hk _ _ (h.2 k hk')⟩
  · unfold bsE at *
    split at h
    · split at h
      · exact ⟨h.1, h.2.1, fun k hk' => hk _ _ (h.2.2 k hk')⟩
      · exact h.elim
    · exact h.elim
  · unfold makeE at *
    split at h
    · split at h
      · obtain ⟨h1, h2, h3, h4, h5, h6, h7⟩ := h
        exact ⟨h1, h2, h3, h4, h5, h6, fun k hk' => hk _ _ (h7 k hk')⟩
      · exact h.elim
    · exact h.elim
  · unfold storeE at *
    split at h
    · split at h
      · obtain ⟨h1, h2, h3, h4⟩ := h
        exact ⟨h1, h2, h3, hk _ _ h4⟩
      · exact h.elim
    · exact h.elim
  · unfold binE' at *
    split at h
    · exact eqNilE_mono h fun d => hk d _
    · exact eqNilE_mono h fun d => hk d _
    · exact ESem.mono h hk
  · split at h
    · unfold appE at *
      split at h
      · split at h
        · split at h
          · obtain ⟨h1, h2, h3, h4⟩ := h
            refine ⟨h1, h2, h3, ?_⟩
            split at h4
            · obtain ⟨g1, g2, g3, g4⟩ := h4
              exact ⟨g1, g2, fun hm => hk _ _ (g3 hm), fun hm k c hq hq2 => hk _ _ (g4 hm k c hq hq2)⟩
            · obtain ⟨g1, g2, g3, g4⟩ := h4
              exact ⟨g1, g2, fun hm => hk _ _ (g3 hm), fun hm k c hq hq2 => hk _ _ (g4 hm k c hq hq2)⟩
            · split at h4
              · split at h4
                · obtain ⟨g1, g2, g3, g4, g5, g6⟩ := h4
                  exact ⟨g1, g2, g3, g4, g5, hk _ _ g6⟩
                · exact h4.elim
              · split at h4
                · obtain ⟨g1, g2, g3, g4, g5, g6⟩ := h4
                  exact ⟨g1, g2, g3, g4, g5, fun k' c' hq hq2 => hk _ _ (g6 k' c' hq hq2)⟩
                · exact h4.elim
            · exact h4.elim
          · exact h.elim
        · exact h.elim
      · exact h.elim
    · exact ESem.mono h hk
  · unfold callE at *
    split at h
    · exact AC.mono' h hk
    · exact ESem.mono h hk
  · exact ESem.mono h hk
theorem stE_mono {P : Program} {mu : Bool} {o : Oper} {tg : Tg} {ρ : Operand → AV} {own : Own} {K K' : AV → Own → Prop} (h : stE P mu o tg ρ own K) (hk : ∀ d own', (tg = .e ∨ own' = own) → K d own' → K' d own') : stE P mu o tg ρ own K' := by
  cases tg with
  | e =>
    simp only [stE] at h ⊢
    unfold eff at *
    split at h
    · exact ⟨h.1, hk _ _ (.inl rfl) h.2⟩
    · exact effE_mono h fun d own' => hk d own' (.inl rfl)
  | v =>
    simp only [stE] at h ⊢
    split at h
    · rename_i c d hp; exact ⟨h.1, hk _ _ (.inr rfl) h.2⟩
    · exact h.elim
  | r =>
    simp only [stE] at h ⊢
    split at h
    · rename_i c d hp; exact ⟨h.1, hk _ _ (.inr rfl) h.2⟩
    · exact h.elim
  | c d => exact ⟨h.1, hk _ _ (.inr rfl) h.2⟩

/-- s' is s but for a slot and, if the operation writes, the objects. -/
def Agree (s s' : St) (dst : Option Nat) (tg : Tg) : Prop := s'.n = s.n ∧ (tg = .e ∨ s'.own = s.own) ∧ ∀ t, dst ≠ some t → s'.tm t = s.tm t
theorem stG_mono {P : Program} {M : List Nat} {ops : Array Oper} {o : Oper} {tg : Tg} {s : St} {K K' : St → Prop} (h : stG P M ops o tg s K) (hk : ∀ s', Agree s s' o.dst tg → K s' → K' s') : stG P M ops o tg s K' := by
  have main : stE P (muOf M o.dst) o tg s.ev s.own (fun d own' => s.puts o.dst d own' K) → stE P (muOf M o.dst) o tg s.ev s.own (fun d own' => s.puts o.dst d own' K') :=
    fun h => stE_mono h fun d own' ho hp => puts_mono hp fun s' e1 e2 e3 hq => hk s' ⟨e1, ho.imp id fun e => e2.trans e, e3⟩ hq
  unfold stG at *
  split at h
  · exact main h
  · split at h
    · rw [BrG_iff] at h ⊢
      split at h
      · rw [if_pos ‹_›]; exact main h
      · rw [if_neg ‹_›]; exact puts_mono h fun s' e1 e2 e3 hq => hk s' ⟨e1, .inr e2, e3⟩ hq
    · exact puts_mono h fun s' e1 e2 e3 hq => hk s' ⟨e1, .inr e2, e3⟩ hq
    · exact h.elim

theorem at_puts {s : St} {oi oj : Option Nat} {di dj : AV} {own : Own} {K : St → Prop} (hne : ∀ t, oi = some t → oj ≠ some t) (h : (s.at oi di).puts oj dj own K) : s.puts oj dj own fun s' => K (s'.at oi di) := by
  cases oi with
  | none => exact h
  | some t =>
    cases oj with
    | none => exact h
    | some u =>
      obtain ⟨h1, h2⟩ := h
      refine ⟨h1, ?_⟩
      simp only [St.at] at h2 ⊢
      rwa [upd_comm _ _ _ fun e => hne t rfl (by rw [e])]

theorem stG_at {P : Program} {M : List Nat} {ops : Array Oper} {oi oj : Oper} {tg : Tg} {s : St} {di : AV} {K : St → Prop} (hap : (∀ d, oi.dst = some d → d ∉ oj.looksAt ops) ∧ (∀ d, oi.dst = some d → oj.dst ≠ some d)) :
    stG P M ops oj tg (s.at oi.dst di) K ↔ stG P M ops oj tg s fun s' => K (s'.at oi.dst di) := by
  have hev := at_ev hap.1 s di
  have main : stE P (muOf M oj.dst) oj tg (s.at oi.dst di).ev (s.at oi.dst di).own (fun d own' => (s.at oi.dst di).puts oj.dst d own' K) ↔ stE P (muOf M oj.dst) oj tg s.ev s.own (fun d own' => s.puts oj.dst d own' fun s' => K (s'.at oi.dst di)) := by
    rw [stE_congr hev, at_own]
    exact ⟨fun h => stE_mono h fun d own' _ hp => at_puts hap.2 hp, fun h => stE_mono h fun d own' _ hp => puts_at hap.2 hp⟩
  unfold stG
  cases hg : oj.guard with
  | none => exact main
  | some g =>
    obtain ⟨j, want⟩ := g
    simp only
    rw [at_gv hap.1 s di hg]
    generalize gq (gv ops s j) = q
    match q with
    | some (some t) =>
      simp only
      rw [BrG_iff, BrG_iff]
      by_cases ht : t = want
      · rw [if_pos ht, if_pos ht]; exact main
      · rw [if_neg ht, if_neg ht, at_own]
        exact ⟨fun h => at_puts hap.2 h, fun h => puts_at hap.2 h⟩
    | some none =>
      simp only
      rw [at_own]
      exact ⟨fun h => at_puts hap.2 h, fun h => puts_at hap.2 h⟩
    | none => exact Iff.rfl

/-- What an operation that does not write comes to at a state. -/
def ivM (P : Program) (M : List Nat) (o : Oper) (tg : Tg) (s : St) : Option (Prop × AV) := match tg with
  | .v => pv P (muOf M o.dst) o.op s.ev noOwn
  | .r => pv P (muOf M o.dst) o.op s.ev s.own
  | .c d => some (VSem P o s.ev noOwn d, d)
  | .e => none
def iv (P : Program) (M : List Nat) (ops : Array Oper) (o : Oper) (tg : Tg) (s : St) : Option (Prop × AV) :=
  match o.guard with
  | none => ivM P M o tg s
  | some (j, want) => match gq (gv ops s j) with
    | some (some t) => if t = want then ivM P M o tg s else some (True, .tup [])
    | some none => some (True, .tup [])
    | none => none
def boundD (s : St) (dst : Option Nat) : Prop := match dst with
  | none => True
  | some t => t < s.n
theorem puts_iff {s : St} {dst : Option Nat} {d : AV} {K : St → Prop} : s.puts dst d s.own K ↔ boundD s dst ∧ K (s.at dst d) := by
  cases dst with
  | none => exact ⟨fun h => ⟨trivial, h⟩, fun h => h.2⟩
  | some t => exact Iff.rfl
theorem stG_iv {P : Program} {M : List Nat} {ops : Array Oper} {o : Oper} {tg : Tg} {s : St} {K : St → Prop} (htg : tg ≠ .e) :
    stG P M ops o tg s K ↔ ∃ c d, iv P M ops o tg s = some (c, d) ∧ c ∧ boundD s o.dst ∧ K (s.at o.dst d) := by
  have main : stE P (muOf M o.dst) o tg s.ev s.own (fun d own' => s.puts o.dst d own' K) ↔ ∃ c d, ivM P M o tg s = some (c, d) ∧ c ∧ boundD s o.dst ∧ K (s.at o.dst d) := by
    cases tg with
    | e => exact absurd rfl htg
    | v =>
      simp only [stE, ivM]
      cases pv P (muOf M o.dst) o.op s.ev noOwn with
      | none => simp
      | some x => obtain ⟨c, d⟩ := x; simp only [puts_iff, Option.some.injEq, Prod.mk.injEq]; exact ⟨fun h => ⟨c, d, ⟨rfl, rfl⟩, h⟩, fun ⟨c', d', ⟨e1, e2⟩, h⟩ => by subst e1; subst e2; exact h⟩
    | r =>
      simp only [stE, ivM]
      cases pv P (muOf M o.dst) o.op s.ev s.own with
      | none => simp
      | some x => obtain ⟨c, d⟩ := x; simp only [puts_iff, Option.some.injEq, Prod.mk.injEq]; exact ⟨fun h => ⟨c, d, ⟨rfl, rfl⟩, h⟩, fun ⟨c', d', ⟨e1, e2⟩, h⟩ => by subst e1; subst e2; exact h⟩
    | c d0 =>
      simp only [stE, ivM, puts_iff, Option.some.injEq, Prod.mk.injEq]
      exact ⟨fun h => ⟨_, d0, ⟨rfl, rfl⟩, h⟩, fun ⟨c', d', ⟨e1, e2⟩, h⟩ => by subst e1; subst e2; exact h⟩
  unfold stG iv
  cases hg : o.guard with
  | none => exact main
  | some g =>
    obtain ⟨j, want⟩ := g
    simp only
    generalize gq (gv ops s j) = q
    have skip : s.puts o.dst (.tup []) s.own K ↔ ∃ c d, some (True, AV.tup []) = some (c, d) ∧ c ∧ boundD s o.dst ∧ K (s.at o.dst d) := by
      rw [puts_iff]
      simp only [Option.some.injEq, Prod.mk.injEq]
      exact ⟨fun h => ⟨True, .tup [], ⟨rfl, rfl⟩, trivial, h⟩, fun ⟨c', d', ⟨e1, e2⟩, _, h⟩ => by subst e2; exact h⟩
    match q with
    | some (some t) =>
      simp only
      rw [BrG_iff]
      by_cases ht : t = want
      · rw [if_pos ht, if_pos ht]; exact main
      · rw [if_neg ht, if_neg ht]; exact skip
    | some none => exact skip
    | none => simp
theorem iv_agree {P : Program} {M : List Nat} {ops : Array Oper} {ox oj : Oper} {tx tj : Tg} {s s' : St} (h : Agree s s' ox.dst tx) (hap : ∀ d, ox.dst = some d → d ∉ oj.looksAt ops) (hc : tj = .r → tx ≠ .e) : iv P M ops oj tj s' = iv P M ops oj tj s := by
  obtain ⟨h1, h2, h3⟩ := h
  have hev : ∀ x ∈ oj.op.operands, s'.ev x = s.ev x := by
    intro x hx
    cases x with
    | tmp u =>
      refine h3 u fun e => hap u e ?_
      unfold Oper.looksAt
      exact List.mem_append.2 (.inl (List.mem_filterMap.2 ⟨.tmp u, by simpa using hx, rfl⟩))
    | _ => rfl
  have hmain : ivM P M oj tj s' = ivM P M oj tj s := by
    cases tj with
    | v => exact pv_congr hev
    | r => simp only [ivM]; rw [h2.resolve_left (hc rfl)]; exact pv_congr hev
    | e => rfl
    | c d =>
      simp only [ivM, Option.some.injEq, Prod.mk.injEq, and_true]
      exact propext ⟨fun h => h.congr fun x hx => (hev x hx).symm, fun h => h.congr hev⟩
  unfold iv
  rw [hmain]
  cases hg : oj.guard with
  | none => rfl
  | some g =>
    obtain ⟨j, want⟩ := g
    simp only
    have : gv ops s' j = gv ops s j := by
      unfold gv
      cases hu : (ops[j]?).bind (·.dst) with
      | none => rfl
      | some u =>
        refine h3 u fun e => hap u e ?_
        unfold Oper.looksAt
        exact List.mem_append.2 (.inr (by rw [hg]; simp [hu]))
    rw [this]

theorem OpRes.exists {P : Program} {o : Oper} {ev : Operand → Value} {w : World} {R : Value → World → Prop} (h : OpRes P o ev w R) : ∃ v w', R v w' := by
  unfold OpRes at h
  split at h
  · exact ⟨_, _, h⟩
  · exact ⟨_, _, h⟩
  · obtain ⟨e, w', fr, ⟨v, _, hR⟩, _⟩ := h []
    exact ⟨v, w', hR⟩
  · exact h.elim
theorem stG_exists {P : Program} {M : List Nat} {ops : Array Oper} {o : Oper} {tg : Tg} {B : Base} {s : St} {a : Act} {w : World} {F : Frz} {K : St → Prop} (hr : RepSt B s a w F) (h : stG P M ops o tg s K) : ∃ s' a' w' F', RepSt B s' a' w' F' ∧ K s' ∧ Agree s s' o.dst tg := by
  have h2 := stG_mono h (K' := fun s' => K s' ∧ Agree s s' o.dst tg) fun s' ha hk => ⟨hk, ha⟩
  have main : ∀ {tg K}, stE P (muOf M o.dst) o tg s.ev s.own (fun d own' => s.puts o.dst d own' K) → ∃ s' a' w' F', RepSt B s' a' w' F' ∧ K s' := by
    intro tg K h
    obtain ⟨v, w', F', d, own', h1, h2, h3⟩ := (stE_sound h w F a.eval hr.ws.wf hr.ws.owns fun x _ => hr.ev x).exists
    obtain ⟨s', r1, r2⟩ := hr.put h1 h2 h3
    exact ⟨s', _, w', F', r1, r2⟩
  unfold stG at h2
  split at h2
  · obtain ⟨s', a', w', F', r, k⟩ := main h2; exact ⟨s', a', w', F', r, k.1, k.2⟩
  · split at h2
    · rw [BrG_iff] at h2
      split at h2
      · obtain ⟨s', a', w', F', r, k⟩ := main h2; exact ⟨s', a', w', F', r, k.1, k.2⟩
      · obtain ⟨s', r1, r2⟩ := hr.put hr.ws.here (d := .tup []) (v := undef) (by simp [Rep, Reps, undef]) h2
        exact ⟨s', _, w, F, r1, r2.1, r2.2⟩
    · obtain ⟨s', r1, r2⟩ := hr.put hr.ws.here (d := .tup []) (v := undef) (by simp [Rep, Reps, undef]) h2
      exact ⟨s', _, w, F, r1, r2.1, r2.2⟩
    · exact h2.elim

/-- Two items of a region neither of which has to come before the other. -/
def Free (ops : Array Oper) (x y : Item') : Prop := x.2.1.apart ops y.2.1 = true ∧ compatT x.2.2 y.2.2 = true

section
variable {P : Program} {M : List Nat} {ops : Array Oper} {K : St → Prop}
theorem pull_ok {j : Item'} (hj : j.2.2 ≠ .e) {ys : List Item'} {B : Base} : ∀ {xs : List Item'} {s : St} {a : Act} {w : World} {F : Frz}, (∀ x ∈ xs, Free ops x j) → RepSt B s a w F → wpD P M ops (xs ++ j :: ys) s K → ∃ c d, iv P M ops j.2.1 j.2.2 s = some (c, d) ∧ c ∧ boundD s j.2.1.dst
  | [], s, a, w, F, _, hr, h => by
    obtain ⟨c, d, h1, h2, h3, _⟩ := (stG_iv hj).1 h
    exact ⟨c, d, h1, h2, h3⟩
  | x :: xs, s, a, w, F, hf, hr, h => by
    obtain ⟨s', a', w', F', r, k, hag⟩ := stG_exists hr h
    obtain ⟨c, d, h1, h2, h3⟩ := pull_ok hj (fun y hy => hf y (by simp [hy])) r k
    obtain ⟨f1, f2⟩ := hf x (by simp)
    obtain ⟨g1, g2, g3⟩ := Oper.apart_spec f1
    rw [iv_agree hag g1 (fun e e2 => by rw [e, e2] at f2; simp [compatT] at f2)] at h1
    refine ⟨c, d, h1, h2, ?_⟩
    unfold boundD at h3 ⊢
    rw [hag.1] at h3
    exact h3
theorem pull_val {j : Item'} (hj : j.2.2 ≠ .e) {ys : List Item'} {c : Prop} {d : AV} : ∀ {xs : List Item'} {s : St}, (∀ x ∈ xs, Free ops x j) → iv P M ops j.2.1 j.2.2 s = some (c, d) → wpD P M ops (xs ++ j :: ys) s K → wpD P M ops (xs ++ ys) (s.at j.2.1.dst d) K
  | [], s, _, hi, h => by
    obtain ⟨c', d', h1, h2, h3, h4⟩ := (stG_iv hj).1 h
    rw [h1] at hi
    injection hi with hi; injection hi with _ hi; subst hi
    exact h4
  | x :: xs, s, hf, hi, h => by
    obtain ⟨f1, f2⟩ := hf x (by simp)
    obtain ⟨g1, g2, g3⟩ := Oper.apart_spec f1
    refine (stG_at (oi := j.2.1) ⟨g3, fun t ht e => g2 t e ht⟩).2 ?_
    refine stG_mono h fun s' hag hk => ?_
    refine pull_val (c := c) (d := d) hj (fun y hy => hf y (by simp [hy])) ?_ hk
    rw [iv_agree hag g1 (fun e e2 => by rw [e, e2] at f2; simp [compatT] at f2)]
    exact hi
theorem pull_eff {j : Item'} (hj : j.2.2 = .e) {ys : List Item'} : ∀ {xs : List Item'} {s : St}, (∀ x ∈ xs, Free ops x j) → wpD P M ops (xs ++ j :: ys) s K → stG P M ops j.2.1 j.2.2 s fun s' => wpD P M ops (xs ++ ys) s' K
  | [], s, _, h => h
  | x :: xs, s, hf, h => by
    obtain ⟨f1, f2⟩ := hf x (by simp)
    obtain ⟨g1, g2, g3⟩ := Oper.apart_spec f1
    have hx : x.2.2 ≠ .e ∧ x.2.2 ≠ .r := by
      rw [hj] at f2
      constructor <;> (intro e; rw [e] at f2; simp [compatT] at f2)
    obtain ⟨c, d, h1, h2, h3, h4⟩ := (stG_iv hx.1).1 h
    have ih := pull_eff hj (fun y hy => hf y (by simp [hy])) h4
    have ih := (stG_at (oi := x.2.1) ⟨g1, g2⟩).1 ih
    refine stG_mono ih fun s' hag hk => ?_
    refine (stG_iv hx.1).2 ⟨c, d, ?_, h2, ?_, hk⟩
    · rw [iv_agree hag g3 (fun e => absurd e hx.2)]; exact h1
    · unfold boundD at h3 ⊢
      rw [hag.1]
      exact h3
theorem pull {j : Item'} {xs ys : List Item'} {B : Base} {s : St} {a : Act} {w : World} {F : Frz} (hf : ∀ x ∈ xs, Free ops x j) (hr : RepSt B s a w F) (h : wpD P M ops (xs ++ j :: ys) s K) : stG P M ops j.2.1 j.2.2 s fun s' => wpD P M ops (xs ++ ys) s' K := by
  by_cases hj : j.2.2 = .e
  · exact pull_eff hj hf h
  · obtain ⟨c, d, h1, h2, h3⟩ := pull_ok hj hf hr h
    exact (stG_iv hj).2 ⟨c, d, h1, h2, h3, pull_val hj hf h1 h⟩
end

/-- What is listed is closed downwards. -/
def Closed (ops : Array Oper) (listed : Array Bool) : Prop := ∀ j o, listed.getD j false = true → ops[j]? = some o → ∀ e ∈ o.after, Region.binds .any e = true → listed.getD e.on false = true
theorem reach_listed {ops : Array Oper} {listed : Array Bool} (hcl : Closed ops listed) : ∀ (fuel i j : Nat), reachB ops fuel i j = true → (∀ o, ops[j]? = some o → ∀ e ∈ o.after, Region.binds .any e = true → listed.getD e.on false = true) → listed.getD i false = true
  | 0, i, j, h, _ => by simp [reachB] at h
  | fuel + 1, i, j, h, hd => by
    simp only [reachB] at h
    cases ho : ops[j]? with
    | none => rw [ho] at h; cases h
    | some o =>
      rw [ho] at h
      simp only [List.any_eq_true, Bool.and_eq_true, Bool.or_eq_true, beq_iff_eq] at h
      obtain ⟨e, he, hb, h⟩ := h
      have hl := hd o ho e (by simpa using he) hb
      rcases h with h | h
      · rw [← h]; exact hl
      · exact reach_listed hcl fuel i e.on h fun o' ho' e' he' hb' => hcl e.on o' hl ho' e' he' hb'

theorem draw_sound {P : Program} {M : List Nat} {ops : Array Oper} {tags : List Tg} (hB : drawB ops tags = true) {B : Base} {K : St → Prop} {Q : Exit → Act → World → Prop} (hk : ∀ s' a' w' F', RepSt B s' a' w' F' → K s' → Q .normal a' w') :
    ∀ (R : List Item') (listed : Array Bool) (s : St) (a : Act) (w : World) (F : Frz), listed.size = ops.size → Closed ops listed → R.Pairwise (fun x y => x.1 < y.1) → (∀ x ∈ R, x.1 < ops.size ∧ ops[x.1]? = some x.2.1 ∧ x.2.2 = tags.getD x.1 .e ∧ listed.getD x.1 true = false) →
      (∀ i, i < ops.size → listed.getD i true = false → ∃ x ∈ R, x.1 = i) → RepSt B s a w F → wpD P M ops R s K → wpAny P .any ops Q R.length listed a w := by
  have hB' := hB
  simp only [drawB, Bool.and_eq_true, List.all_eq_true, List.mem_range] at hB'
  obtain ⟨⟨_, _⟩, hB'⟩ := hB'
  have hedge : ∀ j o, ops[j]? = some o → ∀ e ∈ o.after, Region.binds .any e = true → e.on < j := by
    intro j o ho e he hb
    have := hB' j (Array.getElem?_eq_some_iff.1 ho).1
    rw [ho] at this
    simp only [Bool.and_eq_true, List.all_eq_true, Bool.or_eq_true, Bool.not_eq_true', decide_eq_true_eq] at this
    exact (this.1 e (by simpa using he)).resolve_left (by simp [hb])
  have hfree : ∀ i j oi oj, i < j → ops[i]? = some oi → ops[j]? = some oj → reachB ops ops.size i j = true ∨ (oi.apart ops oj = true ∧ compatT (tags.getD i .e) (tags.getD j .e) = true) := by
    intro i j oi oj hij hi hj
    have := hB' j (Array.getElem?_eq_some_iff.1 hj).1
    rw [hj] at this
    simp only [Bool.and_eq_true] at this
    have h2 := List.all_eq_true.1 this.2 i (List.mem_range.2 hij)
    rw [hi] at h2
    simpa [Bool.or_eq_true, Bool.and_eq_true] using h2
  intro R
  induction hn : R.length generalizing R with
  | zero =>
    intro listed s a w F hsz hcl hp hR hall hr h
    have : R = [] := List.eq_nil_of_length_eq_zero hn
    subst this
    refine ⟨?_, hk _ _ _ _ hr h⟩
    apply List.eq_nil_iff_forall_not_mem.2
    intro j hj
    obtain ⟨h0, o, ho, _⟩ := mem_ready.1 hj
    obtain ⟨x, hx, _⟩ := hall j (Array.getElem?_eq_some_iff.1 ho).1 h0
    cases hx
  | succ n ih =>
    intro listed s a w F hsz hcl hp hR hall hr h
    refine ⟨fun h0 => ?_, fun j hj => ?_⟩
    · -- the first that is left is ready
      exfalso
      cases R with
      | nil => simp at hn
      | cons x R =>
        obtain ⟨x1, x2, x3, x4⟩ := hR x (by simp)
        have : x.1 ∈ Region.ready .any ops listed := by
          refine mem_ready.2 ⟨x4, x.2.1, x2, fun e he hb => ?_⟩
          have hlt := hedge _ _ x2 e he hb
          cases hl : listed.getD e.on false with
          | true => rfl
          | false =>
            have hl' : listed.getD e.on true = false := by
              have : e.on < listed.size := by omega
              rw [Array.getD_eq_getD_getElem?, Array.getElem?_eq_getElem this] at hl ⊢
              exact hl
            obtain ⟨y, hy, hye⟩ := hall e.on (by omega) hl'
            rcases List.mem_cons.1 hy with rfl | hy
            · omega
            · have := (List.pairwise_cons.1 hp).1 y hy
              omega
        rw [h0] at this
        cases this
    · obtain ⟨h0, o, ho, hdone⟩ := mem_ready.1 hj
      obtain ⟨x, hx, hxj⟩ := hall j (Array.getElem?_eq_some_iff.1 ho).1 h0
      obtain ⟨xs, ys, rfl⟩ := List.append_of_mem hx
      subst hxj
      obtain ⟨x1, x2, x3, x4⟩ := hR x hx
      rw [x2] at ho
      injection ho with ho
      subst ho
      have hF : ∀ y ∈ xs, Free ops y x := by
        intro y hy
        obtain ⟨y1, y2, y3, y4⟩ := hR y (by simp [hy])
        have hlt : y.1 < x.1 := (List.pairwise_append.1 hp).2.2 y hy x (by simp)
        rcases hfree y.1 x.1 _ _ hlt y2 x2 with hq | hq
        · exfalso
          have := reach_listed hcl ops.size y.1 x.1 hq fun o' ho' e he hb => hdone e (by rw [x2] at ho'; injection ho' with ho'; rw [ho']; exact he) hb
          rw [Array.getD_eq_getD_getElem?] at this y4
          cases hz : listed[y.1]? with
          | none => rw [hz] at this; cases this
          | some b => rw [hz] at this y4; simp at this y4; rw [this] at y4; cases y4
        · exact ⟨hq.1, by rw [y3, x3]; exact hq.2⟩
      have hpull := pull hF hr h
      refine stG_sound hr hpull x2 fun s' a' w' F' hr' h' => ?_
      refine ih (xs ++ ys) (by simp at hn ⊢; omega) (listed.setIfInBounds x.1 true) s' a' w' F' (by simpa using hsz) ?_ ?_ ?_ ?_ hr' h'
      · intro i oi hi hoi e he hb
        by_cases hix : x.1 = i
        · subst hix
          rw [x2] at hoi
          injection hoi with hoi
          subst hoi
          exact getD_set_true (hdone e he hb)
        · rw [getD_set_ne false hix] at hi
          exact getD_set_true (hcl i oi hi hoi e he hb)
      · exact List.pairwise_append.2 ⟨(List.pairwise_append.1 hp).1, (List.pairwise_cons.1 (List.pairwise_append.1 hp).2.1).2, fun y hy z hz => (List.pairwise_append.1 hp).2.2 y hy z (by simp [hz])⟩
      · intro y hy
        have hyR : y ∈ xs ++ x :: ys := by
          rcases List.mem_append.1 hy with hy | hy <;> simp [hy]
        obtain ⟨y1, y2, y3, y4⟩ := hR y hyR
        refine ⟨y1, y2, y3, ?_⟩
        have hne : x.1 ≠ y.1 := by
          rcases List.mem_append.1 hy with hy | hy
          · have := (List.pairwise_append.1 hp).2.2 y hy x (by simp); omega
          · have := (List.pairwise_cons.1 (List.pairwise_append.1 hp).2.1).1 y hy; omega
        rw [getD_set_ne true hne]
        exact y4
      · intro i hi hl
        by_cases hix : x.1 = i
        · subst hix
          have : x.1 < listed.size := by omega
          simp [this] at hl
        · rw [getD_set_ne true hix] at hl
          obtain ⟨y, hy, hyi⟩ := hall i hi hl
          refine ⟨y, ?_, hyi⟩
          simp only [List.mem_append, List.mem_cons] at hy ⊢
          rcases hy with hy | rfl | hy
          · exact .inl hy
          · exact absurd hyi hix
          · exact .inr hy

/-- The operations of a region with their places and tags. -/
def items (ops : Array Oper) (tags : List Tg) : List Item' := (ops.toList.zip tags).zipIdx.map fun p => (p.2, p.1.1, p.1.2)
theorem AW.draw {P : Program} {M : List Nat} {id : Nat} {ops : Array Oper} {Q : Exit → St → Prop} {s : St} (tags : List Tg) (hm : P.follows .mixedOrders = true) (hB : drawB ops tags = true) (h : wpD P M ops (items ops tags) s (Q .normal)) : AW P (.region id ops true) Q s := by
  intro B w F a hr
  refine wp_region_any hm ?_
  have hsz : ops.size = tags.length := by
    simp only [drawB, Bool.and_eq_true, beq_iff_eq] at hB
    exact hB.1.2
  have hr' : RepSt B s a { w with drawn := w.drawn + 1 } F :=
    ⟨hr.ws.trans ((Ext.drawn hr.ws.wf _).ws hr.ws.owns), hr.size, hr.defers, fun t => Rep.mono (w := w) (w' := { w with drawn := w.drawn + 1 }) (F' := F) (fun _ _ h => ⟨h, rfl⟩) _ _ (hr.tm t)⟩
  have hlen : (items ops tags).length = ops.size := by simp [items, hsz]
  have hget : ∀ x ∈ items ops tags, x.1 < ops.size ∧ ops[x.1]? = some x.2.1 ∧ x.2.2 = tags.getD x.1 .e := by
    intro x hx
    simp only [items, List.mem_map] at hx
    obtain ⟨⟨⟨o, t⟩, i⟩, hp, rfl⟩ := hx
    have h1 := List.mem_zipIdx_iff_getElem?.1 hp
    simp only at h1 ⊢
    rw [List.getElem?_zip_eq_some] at h1
    have hlt : i < ops.size := by
      have := (List.getElem?_eq_some_iff.1 h1.1).1
      simpa using this
    exact ⟨hlt, by simpa using h1.1, by rw [List.getD_eq_getElem?_getD, h1.2]; rfl⟩
  have := draw_sound (P := P) (M := M) hB (B := B) (K := Q .normal) (Q := fun e a' w' => ∃ s' F', RepSt B s' a' w' F' ∧ Q e s') (fun s' a' w' F' r k => ⟨s', F', r, k⟩) (items ops tags) (Array.replicate ops.size false) s a _ F (by simp)
    (fun j o hj ho e he hb => by
      rw [Array.getD_eq_getD_getElem?, Array.getElem?_replicate] at hj
      split at hj <;> simp at hj)
    (by
      simp only [items]
      rw [List.pairwise_map]
      have : ∀ (l : List (Oper × Tg)) (k : Nat), (l.zipIdx k).Pairwise fun x y => x.2 < y.2 := by
        intro l
        induction l with
        | nil => intro k; simp
        | cons x l ih =>
          intro k
          simp only [List.zipIdx_cons, List.pairwise_cons]
          refine ⟨fun y hy => ?_, ih (k + 1)⟩
          have := List.le_snd_of_mem_zipIdx hy
          omega
      exact this _ 0)
    (fun x hx => ⟨(hget x hx).1, (hget x hx).2.1, (hget x hx).2.2, by have := (hget x hx).1; simp [this]⟩)
    (fun i hi _ => by
      refine ⟨(i, ops[i], tags[i]'(by omega)), ?_, rfl⟩
      simp only [items, List.mem_map]
      refine ⟨((ops[i], tags[i]'(by omega)), i), ?_, rfl⟩
      refine List.mem_zipIdx_iff_getElem?.2 ?_
      simp only
      rw [List.getElem?_zip_eq_some]
      exact ⟨by simp [hi], by simp⟩)
    hr' h
  rwa [hlen] at this

/-! ### Bodies -/
/-- What a result variable holds. -/
def resA (P : Program) (s : St) : ResultVar → Option (Prop × AV)
  | .tmp t => some (True, s.tm t)
  | .cell t T => pvLoad P T (s.tm t) s.own
def resAs (P : Program) (s : St) : List ResultVar → Option (Prop × List AV)
  | [] => some (True, [])
  | r :: rs => match resA P s r, resAs P s rs with
    | some (c, d), some (c', ds) => some (c ∧ c', d :: ds)
    | _, _ => none
def tupA : List AV → AV
  | [d] => d
  | ds => .tup ds
/-- What a body comes to at its end. -/
def endA (P : Program) (rs : List ResultVar) (K : AV → Own → Prop) (s : St) : Prop := match resAs P s rs with
  | some (c, ds) => c ∧ K (tupA ds) s.own
  | none => False
def bodyQ (P : Program) (rs : List ResultVar) (K : AV → Own → Prop) : Exit → St → Prop
  | .normal, s | .ret, s => endA P rs K s
  | _, _ => False

theorem resAs_sound {P : Program} {B : Base} {s : St} {a : Act} {w : World} {F : Frz} (hr : RepSt B s a w F) : ∀ {rs : List ResultVar} {c : Prop} {ds : List AV}, resAs P s rs = some (c, ds) → c →
    ∃ vs : List Value, (rs.mapM fun r => (match r with | .tmp t => pure (a.tmps.getD t undef) | .cell t T => (do loadVar T (← asAddr (a.tmps.getD t undef))) : Sem Value)).run P w = .ok vs w ∧ Reps w F ds vs
  | [], c, ds, h, hc => by
    simp only [resAs] at h
    injection h with h; injection h with _ h; subst h
    exact ⟨[], by simp, by simp [Reps]⟩
  | r :: rs, c, ds, h, hc => by
    simp only [resAs] at h
    split at h
    · rename_i c1 d c2 ds' h1 h2
      injection h with h; injection h with h3 h; subst h; subst h3
      obtain ⟨vs, g1, g2⟩ := resAs_sound hr h2 hc.2
      have hone : ∃ v, ((match r with | .tmp t => pure (a.tmps.getD t undef) | .cell t T => (do loadVar T (← asAddr (a.tmps.getD t undef))) : Sem Value)).run P w = .ok v w ∧ Rep w F d v := by
        cases r with
        | tmp t =>
          simp only [resA] at h1
          injection h1 with h1; injection h1 with _ h1; subst h1
          exact ⟨_, rfl, hr.tm t⟩
        | cell t T =>
          simp only [resA] at h1
          have hs := pv_sound (P := P) (mu := false) (o := ⟨none, .load T (.tmp t), 0, "", #[], none⟩) (ρ := s.ev) (own := s.own) (c := c1) (d := d) h1 hc.1
          have := hs w F a.eval hr.ws.wf hr.ws.owns fun x _ => hr.ev x
          have e1 : ∃ k off, a.tmps.getD t undef = .pointer (some ⟨k, off, none⟩) := by
            have ht := hr.tm t
            unfold pvLoad loadA at h1
            split at h1
            · split at h1
              · rename_i hd; rw [hd] at ht; simp only [Rep] at ht; obtain ⟨k, off, x, e, _⟩ := ht; exact ⟨k, off, e⟩
              · rename_i k off hd; rw [hd] at ht; simp only [Rep] at ht; exact ⟨k, off, ht.1⟩
              · cases h1
            · cases h1
          obtain ⟨k, off, e1⟩ := e1
          unfold OpRes at this
          have e2 : (execOp a.eval ⟨none, .load T (.tmp t), 0, "", #[], none⟩).run P w = ((loadVar T ⟨k, off, none⟩).run P w).andThen fun v w' => .ok (.value v) w' := by
            simp only [execOp, Act.eval, e1, Instr.loadAt, Instr.sureAddr, Sem.run_bind, Sem.run_pure, Result.andThen_ok]
          obtain ⟨v, hv, hrep⟩ : ∃ v, (loadVar T ⟨k, off, none⟩).run P w = .ok v w ∧ Rep w F d v := by
            -- loads leave the world alone
            obtain ⟨i, hi⟩ : ∃ i, ti P T = some i := by
              unfold pvLoad at h1
              split at h1
              · rename_i i hi; exact ⟨i, hi⟩
              · cases h1
            have hl := vs_load_run (P := P) (w := w) (F := F) (own := s.own) (T := T) (d := d) (c := c1) hi (by unfold pvLoad at h1; rw [hi] at h1; exact h1) hc.1 hr.ws.owns (e1 ▸ hr.tm t)
            exact hl
          refine ⟨v, ?_, hrep⟩
          simp only [e1, asAddr, Sem.run_bind, Sem.run_pure, Result.andThen_ok, hv]
      obtain ⟨v, v1, v2⟩ := hone
      refine ⟨v :: vs, ?_, by simp only [Reps]; exact ⟨v, vs, rfl, v2, g2⟩⟩
      rw [List.mapM_cons, Sem.run_bind, v1, Result.andThen_ok, Sem.run_bind, g1]
      rfl
    · cases h

def argTm (args : List AV) (t : Nat) : AV := (args[t]?).getD .any
def startA (n : Nat) (args : List AV) (own : Own) : St := ⟨n, argTm args, own⟩

theorem AC.of_body {P : Program} {f : Nat} {fn : Func} {c : Code} {M : List Nat} {args : List AV} {own : Own} {K : AV → Own → Prop} (hf : P.funcs[f]? = some fn) (hb : fn.body = some c) (hn : (fn.name == "runtime.NumGoroutine") = false) (ha : args.length ≤ fn.ntmps)
    (h : wpC P M c (bodyQ P fn.results.toList K) (startA fn.ntmps args own)) : AC P f args own K := by
  intro w F vs hwf ho hr
  have hrun : (callFunc f vs.toArray).run P w = .ok (.enter f vs.toArray) w := by
    simp only [callFunc, Sem.run_bind, run_program, Result.andThen_ok, hf]
    rw [if_neg (by rw [hn]; simp)]
    rw [if_neg (by rw [hb]; simp)]
    rfl
  unfold CallRes
  rw [hrun]
  refine calls_of_wp hf hb ?_
  have hlen := hr.length
  have hrep : RepSt ⟨w, F, own⟩ (startA fn.ntmps args own) { tmps := vs.toArray ++ Array.replicate (fn.ntmps - vs.toArray.size) undef, defers := [] } w F := by
    refine ⟨(Ext.refl hwf).ws ho, by simp [startA]; omega, rfl, fun t => ?_⟩
    simp only [startA, argTm]
    cases hd : args[t]? with
    | none => simp [Rep]
    | some d =>
      obtain ⟨x, hx, hx2⟩ := hr.get t d hd
      have hlt : t < vs.length := (List.getElem?_eq_some_iff.1 hx).1
      simp only [Option.getD_some]
      rw [Array.getD_eq_getD_getElem?, Array.getElem?_append_left (by simpa using hlt)]
      simpa [hx] using hx2
  have hend : ∀ {s' : St} {a' : Act} {w' : World} {F' : Frz}, RepSt ⟨w, F, own⟩ s' a' w' F' → endA P fn.results.toList K s' → a'.defers = [] ∧ ∃ v, (results fn a'.tmps).run P w' = .ok v w' ∧ ∃ v_1, Ending.returned v = .returned v_1 ∧ ∃ F' d own', WS ⟨w, F, own⟩ w' F' own' ∧ Rep w' F' d v_1 ∧ K d own' := by
    intro s' a' w' F' r q
    unfold endA at q
    split at q
    · rename_i c ds hres
      obtain ⟨us, u1, u2⟩ := resAs_sound r hres q.1
      refine ⟨r.defers, (if h : us.length = 1 then us[0] else .tuple us.toArray), ?_, _, rfl, F', tupA ds, s'.own, r.ws, ?_, q.2⟩
      · unfold results
        rw [Sem.run_bind, Array.mapM_eq_mapM_toList, Sem.run_map]
        refine Eq.trans (congrArg (fun r : Result (List Value) => (r.andThen fun a w' => Result.ok a.toArray w').andThen fun a w' => Sem.run P (pure (if h : a.size = 1 then a[0] else Value.tuple a)) w') u1) ?_
        simp only [Result.andThen_ok, Sem.run_pure, List.size_toArray]
        split <;> rfl
      · have hul := u2.length
        unfold tupA
        split
        · rename_i d
          simp only [Reps] at u2
          obtain ⟨x, xs, rfl, hx, rfl⟩ := u2
          simpa using hx
        · rename_i ds' hne
          have : us.length ≠ 1 := by
            intro h1
            rw [hul] at h1
            cases ds with
            | nil => simp at h1
            | cons d ds => cases ds with
              | nil => exact hne d rfl
              | cons e es => simp at h1
          rw [dif_neg this]
          simp only [Rep]
          exact ⟨us, rfl, u2⟩
    · exact q.elim
  refine wp_mono (wpC_sound h _ w F _ hrep) ?_
  rintro e a' w' ⟨s', F', r, q⟩
  cases e with
  | normal => exact hend r q
  | ret => exact hend r q
  | _ => exact q.elim

theorem PC.of_ac {P : Program} {f : Nat} {args : List AV} {d : AV} (h : AC P f args noOwn fun d' own' => d' = d) : PC P f args d :=
  fun w F vs hf hr => (h w F vs hf (fun _ _ h => by cases h) hr).mono fun v w' ⟨F', d', own', a, b, c⟩ => ⟨F', Ext.of_ws a, c ▸ b⟩
end Go.Proofs.YtghnigbihllnmaaGreat.Hl

/- What the proofs of single functions use: slots by a list, objects renamed, memory frozen at the end, nil seen as empty. No condition. -/
set_option linter.unusedVariables false
set_option linter.unusedSimpArgs false

namespace Go.Proofs.YtghnigbihllnmaaGreat.Hl
open Go

/-- Slots by a list; the others are not spoken of. -/
def tmL : List (Nat × AV) → Nat → AV
  | [], _ => .any
  | (k, d) :: l, t => if t = k then d else tmL l t
theorem tmL_nil (t : Nat) : tmL [] t = .any := rfl
theorem tmL_cons (k : Nat) (d : AV) (l : List (Nat × AV)) (t : Nat) : tmL ((k, d) :: l) t = if t = k then d else tmL l t := rfl
theorem tmL_le {f : Nat → AV} : ∀ {l : List (Nat × AV)}, (∀ p ∈ l, f p.1 = p.2) → ∀ t, tmL l t = .any ∨ f t = tmL l t
  | [], _, t => .inl rfl
  | (k, d) :: l, h, t => by
    simp only [tmL]
    split
    · rename_i e; subst e; exact .inr (h (t, d) (by simp))
    · exact tmL_le (fun p hp => h p (by simp [hp])) t
theorem Le.of {n : Nat} {f : Nat → AV} {own own' : Own} {l : List (Nat × AV)} (h : ∀ p ∈ l, f p.1 = p.2) (ho : ∀ k o, own' k = some o → own k = some o) : Le ⟨n, f, own⟩ ⟨n, tmL l, own'⟩ :=
  ⟨rfl, tmL_le h, ho⟩
theorem Ghost.of {n : Nat} {f : Nat → AV} {own own' : Own} {l : List (Nat × AV)} (h : ∀ p ∈ l, f p.1 = p.2) (ho : ∀ k o, own' k = some o → own k = some o) : Ghost ⟨n, f, own⟩ ⟨n, tmL l, own'⟩ :=
  (Le.of h ho).ghost
theorem Ghost.same {n : Nat} {f : Nat → AV} {own : Own} {l : List (Nat × AV)} (h : ∀ p ∈ l, f p.1 = p.2) : Ghost ⟨n, f, own⟩ ⟨n, tmL l, own⟩ := Ghost.of h fun _ _ h => h
theorem Ghost.refl (s : St) : Ghost s s := fun B w F a h => ⟨F, h⟩

theorem all_nil {α : Type} {p : α → Prop} : ∀ x ∈ ([] : List α), p x := fun _ h => by cases h
theorem all_cons {α : Type} {p : α → Prop} {a : α} {l : List α} (h : p a) (hl : ∀ x ∈ l, p x) : ∀ x ∈ a :: l, p x := fun x hx => by
  rcases List.mem_cons.1 hx with rfl | hx
  · exact h
  · exact hl x hx

/-! ### Objects -/
theorem Own.set_same (own : Own) (k : Nat) (o : OB) : own.set k o k = some o := if_pos rfl
theorem Own.set_ne (own : Own) {k j : Nat} (o : OB) (h : j ≠ k) : own.set k o j = own j := if_neg h
theorem Own.set_set (own : Own) (k : Nat) (o o' : OB) : (own.set k o).set k o' = own.set k o' := by funext j; simp only [Own.set]; split <;> rfl
theorem Own.set_move {own : Own} {k : Nat} (h : own k = none) (k' : Nat) (o o' : OB) : (own.set k o).move k k' o' = own.set k' o' := by
  funext j
  simp only [Own.set, Own.move]
  split
  · rfl
  · split
    · rename_i e; rw [e]; exact h.symm
    · rfl
theorem Own.set_del {own : Own} {k : Nat} (h : own k = none) (o : OB) : (own.set k o).del k = own := by
  funext j
  simp only [Own.set, Own.del]
  split
  · rename_i e; rw [e]; exact h.symm
  · rfl
theorem Own.move_same (own : Own) (k k' : Nat) (o : OB) : own.move k k' o k' = some o := if_pos rfl
theorem noOwn_at (k : Nat) : noOwn k = none := rfl

/-! ### Freezing -/
def elemOk (wd : Nat) : AV → Prop
  | .st cs => cs.length = wd
  | .tup _ | .any => False
  | _ => wd = 1
theorem elemOk_cells {wd : Nat} {d : AV} (h : elemOk wd d) : (cellsA d).length = wd ∧ okA d := by
  cases d <;> simp only [elemOk] at h <;> simp [cellsA, okA, h]

/-- Cells that are the elements of a list. -/
theorem RepL.of_cells {w : World} {F : Frz} {k wd : Nat} : ∀ {l : List AV} {xs : List Value} {off : Nat}, (∀ d ∈ l, elemOk wd d) → Reps w F (l.flatMap cellsA) xs → (∀ x ∈ xs, x.oneCell' = true) → Holds w F k off xs → RepL w F k off wd l
  | [], xs, off, _, _, _, _ => by simp [RepL]
  | d :: l, xs, off, hd, hr, h1, hh => by
    simp only [List.flatMap_cons] at hr
    obtain ⟨a, b, rfl, ha, hb⟩ := hr.split
    obtain ⟨g1, g2⟩ := hh.append
    obtain ⟨e1, e2⟩ := elemOk_cells (hd d (by simp))
    have hal : a.length = wd := by rw [ha.length, e1]
    simp only [RepL]
    refine ⟨?_, RepL.of_cells (fun d' hd' => hd d' (by simp [hd'])) hb (fun x hx => h1 x (by simp [hx])) (by rw [hal] at g2; exact g2)⟩
    have hk := hd d (by simp)
    have one : ∀ {d}, cellsA d = [d] → Reps w F (cellsA d) a → wd = 1 → ∃ x, Rep w F d x ∧ x.cells.size = wd ∧ Holds w F k off x.cells.toList := by
      intro d hc ha hw
      rw [hc] at ha
      simp only [Reps] at ha
      obtain ⟨x, ys, rfl, hx, rfl⟩ := ha
      have := cells_one (h1 x (by simp))
      exact ⟨x, hx, by rw [this, hw]; rfl, by rw [this]; exact g1⟩
    cases d with
    | st cs =>
      simp only [elemOk] at hk
      refine ⟨.agg a.toArray, ?_, by simpa [Value.cells] using hal, by simpa [Value.cells] using g1⟩
      simp only [Rep]
      exact ⟨a, rfl, by simpa [cellsA] using ha, fun x hx => h1 x (by simp [hx])⟩
    | tup ds => exact hk.elim
    | any => exact hk.elim
    | _ => exact one rfl ha hk

/-- The cells of an object of one's own, from off on, that are the elements of l. -/
def Lies (wd : Nat) (cs : List AV) (off : Nat) (l : List AV) : Prop := (∀ d ∈ l, elemOk wd d) ∧ off + l.length * wd ≤ cs.length ∧ (cs.drop off).take (l.length * wd) = l.flatMap cellsA

def FrzTo (F : Frz) (k n : Nat) : Frz := fun b i => F b i ∨ (b = k ∧ i < n)

/-- An object is given up: it is frozen. -/
theorem WS.freeze {w : World} {F : Frz} {own : Own} (hf : WF w F) (ho : Owns w F own) {k : Nat} {o : OB} (hk : own k = some o) : WS ⟨w, F, own⟩ w (FrzTo F k o.cs.length) (own.del k) where
  os := rfl
  tape := rfl
  output := rfl
  size := Nat.le_refl _
  keep b hb hn := by
    simp only at hn
    have hne : b ≠ k := by intro h; rw [h, hk] at hn; cases hn
    exact ⟨rfl, by simp [Own.del, hne, hn], fun i hi => hi.elim id fun h => absurd h.1 hne⟩
  kept j i hj := ⟨.inl hj, rfl⟩
  wf j i hj := by rcases hj with hj | ⟨rfl, _⟩; exact hf j i hj; exact (ho _ o hk).lt
  owns j q hj := by
    simp only [Own.del] at hj
    split at hj
    · cases hj
    · rename_i hne
      exact (ho j q hj).mono (fun _ _ h => ⟨.inl h, rfl⟩) rfl fun i hi => hi.elim id fun h => absurd h.1 hne
/-- An object is shared: what it holds is frozen, it may still grow. -/
theorem WS.share {w : World} {F : Frz} {own : Own} (hf : WF w F) (ho : Owns w F own) {k : Nat} {o : OB} (hk : own k = some o) : WS ⟨w, F, own⟩ w (FrzTo F k o.cs.length) (own.set k { o with fz := o.cs.length }) where
  os := rfl
  tape := rfl
  output := rfl
  size := Nat.le_refl _
  keep b hb hn := by
    simp only at hn
    have hne : b ≠ k := by intro h; rw [h, hk] at hn; cases hn
    exact ⟨rfl, by simp [Own.set, hne, hn], fun i hi => hi.elim id fun h => absurd h.1 hne⟩
  kept j i hj := ⟨.inl hj, rfl⟩
  wf j i hj := by rcases hj with hj | ⟨rfl, _⟩; exact hf j i hj; exact (ho _ o hk).lt
  owns j q hj := by
    have hkept : Kept w F w (FrzTo F k o.cs.length) := fun _ _ h => ⟨.inl h, rfl⟩
    simp only [Own.set] at hj
    split at hj
    · rename_i e
      injection hj with hj
      subst hj
      subst e
      obtain ⟨arr, h1, h2, h3, h4, h5, h6, h7⟩ := ho j o hk
      exact ⟨arr, h1, h2, h3, h4.mono hkept _ _, h5, fun i hi => hi.elim (fun h => Nat.lt_of_lt_of_le (h6 i h) h7) fun h => h.2, Nat.le_refl _⟩
    · rename_i hne
      exact (ho j q hj).mono hkept rfl fun i hi => hi.elim id fun h => absurd h.1 hne
theorem Holds.frz {w : World} {F : Frz} {k : Nat} {o : OB} (h : OwnAt w F k o) {off n : Nat} (hn : off + n ≤ o.cs.length) :
    ∃ xs, Reps w (FrzTo F k o.cs.length) ((o.cs.drop off).take n) xs ∧ (∀ x ∈ xs, x.oneCell' = true) ∧ Holds w (FrzTo F k o.cs.length) k off xs := by
  obtain ⟨xs, g1, g2, g3, g4⟩ := h.cells off n hn
  refine ⟨xs, g3.mono (fun _ _ h => ⟨.inl h, rfl⟩) _ _, g4, fun i v hi => ⟨.inr ⟨rfl, ?_⟩, g2 i v hi⟩⟩
  have : i < xs.length := (List.getElem?_eq_some_iff.1 hi).1
  omega
theorem Rep.frz {w : World} {F : Frz} {k : Nat} {o : OB} (h : OwnAt w F k o) {off wd c : Nat} {l : List AV} (hl : Lies wd o.cs off l) (hc : l.length ≤ c) (hm : l.length ≤ 9223372036854775807) :
    Rep w (FrzTo F k o.cs.length) (.lst wd l) (.slice (some ⟨k, off, none⟩) l.length c) := by
  obtain ⟨h1, h2, h3⟩ := hl
  obtain ⟨xs, g1, g2, g3⟩ := Holds.frz h h2
  rw [h3] at g1
  simp only [Rep]
  exact ⟨_, c, rfl, hc, hm, fun _ => ⟨k, off, rfl, RepL.of_cells h1 g1 g2 g3⟩⟩

/-- One value seen in a weaker way. -/
def Weak1 (own : Own) (d : AV) (own' : Own) (d' : AV) : Prop :=
  ∀ w F v, WF w F → Owns w F own → Rep w F d v → ∃ F', WS ⟨w, F, own⟩ w F' own' ∧ Rep w F' d' v
theorem Weak1.refl (own : Own) (d : AV) : Weak1 own d own d := fun w F v hf ho hr => ⟨F, (Ext.refl hf).ws ho, hr⟩
theorem Weak1.trans {own own1 own2 : Own} {a a1 a2 : AV} (h : Weak1 own a own1 a1) (h' : Weak1 own1 a1 own2 a2) : Weak1 own a own2 a2 :=
  fun w F v hf ho hr => by
    obtain ⟨F1, h1, r1⟩ := h w F v hf ho hr
    obtain ⟨F2, h2, r2⟩ := h' w F1 v h1.wf h1.owns r1
    exact ⟨F2, h1.trans h2, r2⟩
/-- A row of one's own, given up and seen as a list. -/
theorem Weak1.row {own : Own} {k n c off wd : Nat} {o : OB} {l : List AV} (hk : own k = some o) (hl : Lies wd o.cs off l) (hn : n = l.length) (hc : n ≤ c) (hm : n ≤ 9223372036854775807) :
    Weak1 own (.raw (.slice (some ⟨k, off, none⟩) n c)) (own.del k) (.lst wd l) := by
  subst hn
  intro w F v hf ho hr
  simp only [Rep] at hr
  rw [hr.1]
  exact ⟨_, WS.freeze hf ho hk, Rep.frz (ho k o hk) hl hc hm⟩
theorem Weak1.emp {own : Own} {wd : Nat} : Weak1 own .emp own (.lst wd []) := fun w F v hf ho hr => by
  simp only [Rep] at hr
  obtain ⟨A, rfl⟩ := hr
  exact ⟨F, (Ext.refl hf).ws ho, by simp only [Rep]; exact ⟨A, 0, rfl, Nat.le_refl _, by simp, fun h => absurd rfl h⟩⟩
theorem Weak1.nil {own : Own} {wd : Nat} : Weak1 own (.raw (.slice none 0 0)) own (.lst wd []) := fun w F v hf ho hr => by
  simp only [Rep] at hr
  rw [hr.1]
  exact ⟨F, (Ext.refl hf).ws ho, by simp only [Rep]; exact ⟨none, 0, rfl, Nat.le_refl _, by simp, fun h => absurd rfl h⟩⟩
theorem Weak1.nil_emp {own : Own} : Weak1 own (.raw (.slice none 0 0)) own .emp := fun w F v hf ho hr => by
  simp only [Rep] at hr
  rw [hr.1]
  exact ⟨F, (Ext.refl hf).ws ho, by simp only [Rep]; exact ⟨none, rfl⟩⟩
theorem Weak1.drop {own own' : Own} {d : AV} (h : ∀ k o, own' k = some o → own k = some o) : Weak1 own d own' d := fun w F v hf ho hr =>
  ⟨F, ((Ext.refl hf).ws ho).drop h, hr⟩
theorem Weak.one {own own' : Own} {d d' : AV} {pre post : List AV} (h : Weak1 own d own' d') : Weak own (pre ++ d :: post) own' (pre ++ d' :: post) := by
  intro w F vs hf ho hr
  obtain ⟨a, b, rfl, ha, hb⟩ := hr.split
  simp only [Reps] at hb
  obtain ⟨x, xs, rfl, hx, hxs⟩ := hb
  obtain ⟨F', h1, h2⟩ := h w F x hf ho hx
  refine ⟨F', h1, (Reps.mono h1.kept _ _ ha).append ?_⟩
  simp only [Reps]
  exact ⟨x, xs, rfl, h2, Reps.mono h1.kept _ _ hxs⟩
/-- Arguments that are nil where a list is wanted. -/
theorem ACs.arg {P : Program} {f : Nat} {pre post : List AV} {d d' : AV} {own own' : Own} {K : AV → Own → Prop} {hK : HoldK K} (h : Weak1 own d own' d') (hk : ACs P f (pre ++ d' :: post) own' K) : ACs P f (pre ++ d :: post) own K hK :=
  ACs.weak (Weak.one h) hk

/-- A result seen in a weaker way. -/
theorem AC.post {P : Program} {f : Nat} {args : List AV} {own : Own} {K K' : AV → Own → Prop} (h : AC P f args own K) (hk : ∀ d own', K d own' → ∃ d' own'', Weak1 own' d own'' d' ∧ K' d' own'') : AC P f args own K' :=
  fun w F vs hf ho hr => (h w F vs hf ho hr).mono fun v w' ⟨F', d, own', a, b, c⟩ => by
    obtain ⟨d', own'', hw, hk'⟩ := hk d own' c
    obtain ⟨F2, h1, h2⟩ := hw w' F' v a.wf a.owns b
    exact ⟨F2, d', own'', a.trans h1, h2, hk'⟩
/-- A call that writes nothing of the caller's, its result seen in a weaker way. -/
theorem PC.post {P : Program} {f : Nat} {args : List AV} {d : AV} (h : AC P f args noOwn fun d' own' => ∃ own'', Weak1 own' d' own'' d) : PC P f args d :=
  PC.of_ac (h.post fun d' own' ⟨own'', hw⟩ => ⟨d, own'', hw, rfl⟩)

/-- A slot's slice of one's own, given up and seen as a list; a slot that is nil or empty, seen as a list. -/
theorem Ghost.slot {s : St} {t : Nat} {d' : AV} {own' : Own} (h : Weak1 s.own (s.tm t) own' d') : Ghost s ⟨s.n, upd s.tm t d', own'⟩ := by
  intro B w F a hr
  obtain ⟨F', h1, h2⟩ := h w F _ hr.ws.wf hr.ws.owns (hr.tm t)
  refine ⟨F', hr.ws.trans h1, hr.size, hr.defers, fun j => ?_⟩
  simp only [upd]
  split
  · rename_i e; subst e; exact h2
  · exact Rep.mono h1.kept _ _ (hr.tm j)

/-- Own-or-empty: what a call hands back that makes a row. -/
def RowK (T wd n : Nat) (cs : List AV) (own : Own) (K : AV → Own → Prop) : Prop :=
  (n = 0 → K .emp own) ∧ ∀ k c, own k = none → n ≤ c → K (.raw (.slice (some ⟨k, 0, none⟩) n c)) (own.set k ⟨T, cs, 0, c * wd⟩)
theorem Own.set_none {own : Own} {k k' : Nat} {o : OB} (hk : own k = none) (h : k' = k ∨ own.set k o k' = none) : own k' = none := by
  rcases h with rfl | h
  · exact hk
  · simp only [Own.set] at h
    split at h
    · cases h
    · exact h
end Go.Proofs.YtghnigbihllnmaaGreat.Hl

/- Rules for the symbolic run that look at no continuation before it is reached. No condition. -/
set_option linter.unusedVariables false
set_option linter.unusedSimpArgs false

namespace Go.Proofs.YtghnigbihllnmaaGreat.Hl
open Go
section
variable {P : Program} {M : List Nat} {ops : Array Oper} {own : Own}

/-! ### Code -/
def condH (x : AV) (A B : Prop) (_ : HoldP A := ()) (_ : HoldP B := ()) : Prop := match x with
  | .raw (.bool t) => Br t A B
  | _ => False
theorem condH_bool {t : Bool} {A B : Prop} {hA : HoldP A} {hB : HoldP B} : condH (.raw (.bool t)) A B hA hB = Br t A B := propext Iff.rfl
theorem wpC_skip {Q : Exit → St → Prop} {s : St} : wpC P M .skip Q s = Q .normal s := by simp only [wpC]
theorem wpC_drawn {id : Nat} {ops : Array Oper} {Q : Exit → St → Prop} {s : St} : wpC P M (.region id ops true) Q s = AW P (.region id ops true) Q s := by simp only [wpC]
theorem wpC_region {id : Nat} {ops : Array Oper} {Q : Exit → St → Prop} {s : St} : wpC P M (.region id ops false) Q s = wpL P M ops ops.toList s (Q .normal) := by simp only [wpC]
theorem wpC_seq {a b : Code} {Q : Exit → St → Prop} {s : St} : wpC P M (.seq a b) Q s = wpC P M a (thenA (wpC P M b Q) Q) s := by simp only [wpC]
theorem wpC_cond {c : Operand} {a b : Code} {Q : Exit → St → Prop} {s : St} : wpC P M (.cond c a b) Q s = condH (s.ev c) (wpC P M a Q s) (wpC P M b Q s) := by
  simp only [wpC]; exact propext Iff.rfl
theorem wpC_block {id : Nat} {b : Code} {Q : Exit → St → Prop} {s : St} : wpC P M (.block id b) Q s = wpC P M b (inBlockA id Q) s := by simp only [wpC]
theorem wpC_exit {id : Nat} {Q : Exit → St → Prop} {s : St} : wpC P M (.exit id) Q s = Q (.exit id) s := by simp only [wpC]
theorem wpC_ret {Q : Exit → St → Prop} {s : St} : wpC P M .ret Q s = Q .ret s := by simp only [wpC]
theorem wpC_loop {c : Code} {Q : Exit → St → Prop} {s : St} : wpC P M (.loop c) Q s = AW P (.loop c) Q s := by simp only [wpC]

/-! ### Operations -/
def stGh (P : Program) (M : List Nat) (ops : Array Oper) (o : Oper) (tg : Tg) (s : St) (K : St → Prop) (_ : HoldS K := ()) : Prop := stG P M ops o tg s K
def stEh (P : Program) (mu : Bool) (o : Oper) (tg : Tg) (ρ : Operand → AV) (own : Own) (K : AV → Own → Prop) (_ : HoldK K := ()) : Prop := stE P mu o tg ρ own K
theorem wpL_nilH {s : St} {K : St → Prop} : wpL P M ops [] s K = K s := propext Iff.rfl
theorem wpL_consH {o : Oper} {rest : List Oper} {s : St} {K : St → Prop} : wpL P M ops (o :: rest) s K = stGh P M ops o .e s (fun s' => wpL P M ops rest s' K) := propext Iff.rfl
theorem wpD_nilH {s : St} {K : St → Prop} : wpD P M ops [] s K = K s := propext Iff.rfl
theorem wpD_consH {j : Nat} {o : Oper} {tg : Tg} {rest : List Item'} {s : St} {K : St → Prop} : wpD P M ops ((j, o, tg) :: rest) s K = stGh P M ops o tg s (fun s' => wpD P M ops rest s' K) := propext Iff.rfl
def guardH (x : AV) (want : Bool) (A B : Prop) (_ : HoldP A := ()) (_ : HoldP B := ()) : Prop := match gq x with
  | some (some t) => BrG t want A B
  | some none => B
  | none => False
theorem guardH_skip {want : Bool} {A B : Prop} {hA : HoldP A} {hB : HoldP B} : guardH (.tup []) want A B hA hB = B := propext Iff.rfl
theorem guardH_true {t : Bool} {A B : Prop} {hA : HoldP A} {hB : HoldP B} : guardH (.raw (.bool t)) true A B hA hB = Br t A B := propext Iff.rfl
theorem guardH_false {t : Bool} {A B : Prop} {hA : HoldP A} {hB : HoldP B} : guardH (.raw (.bool t)) false A B hA hB = Br t B A := propext Iff.rfl
theorem stGh_none {dst : Option Nat} {op : Op} {ty : Nat} {pos : String} {after} {tg : Tg} {s : St} {K : St → Prop} {h : HoldS K} :
    stGh P M ops ⟨dst, op, ty, pos, after, none⟩ tg s K h = stEh P (muOf M dst) ⟨dst, op, ty, pos, after, none⟩ tg s.ev s.own (fun d own' => s.puts dst d own' K) := propext Iff.rfl
theorem stGh_some {dst : Option Nat} {op : Op} {ty : Nat} {pos : String} {after} {j : Nat} {want : Bool} {tg : Tg} {s : St} {K : St → Prop} {h : HoldS K} :
    stGh P M ops ⟨dst, op, ty, pos, after, some (j, want)⟩ tg s K h = guardH (gv ops s j) want (stEh P (muOf M dst) ⟨dst, op, ty, pos, after, some (j, want)⟩ tg s.ev s.own (fun d own' => s.puts dst d own' K)) (s.puts dst (.tup []) s.own K) := propext Iff.rfl
def effM (x : Option (Prop × AV)) (own : Own) (K : AV → Own → Prop) (alt : Prop) (_ : HoldK K := ()) (_ : HoldP alt := ()) : Prop := match x with
  | some (c, d) => c ∧ K d own
  | none => alt
theorem effM_some {c : Prop} {d : AV} {K : AV → Own → Prop} {alt : Prop} {hK : HoldK K} {hA : HoldP alt} : effM (some (c, d)) own K alt hK hA = (c ∧ K d own) := propext Iff.rfl
theorem effM_none {K : AV → Own → Prop} {alt : Prop} {hK : HoldK K} {hA : HoldP alt} : effM none own K alt hK hA = alt := propext Iff.rfl
/-- An operation that makes or writes memory, or calls. -/
def effEh (P : Program) (o : Oper) (ρ : Operand → AV) (own : Own) (K : AV → Own → Prop) (_ : HoldK K := ()) : Prop := effE P o ρ own K
section
variable {mu : Bool} {dst : Option Nat} {op : Op} {ty : Nat} {pos : String} {after : Array Edge} {g : Option (Nat × Bool)} {ρ : Operand → AV} {K : AV → Own → Prop} {h : HoldK K}
theorem stEh_v : stEh P mu ⟨dst, op, ty, pos, after, g⟩ .v ρ own K h = effM (pv P mu op ρ noOwn) own K False := by
  simp only [stEh, stE]; cases pv P mu op ρ noOwn <;> rfl
theorem stEh_r : stEh P mu ⟨dst, op, ty, pos, after, g⟩ .r ρ own K h = effM (pv P mu op ρ own) own K False := by
  simp only [stEh, stE]; cases pv P mu op ρ own <;> rfl
theorem stEh_c {d : AV} : stEh P mu ⟨dst, op, ty, pos, after, g⟩ (.c d) ρ own K h = (VSem P ⟨dst, op, ty, pos, after, g⟩ ρ noOwn d ∧ K d own) := propext Iff.rfl
theorem stEh_e : stEh P mu ⟨dst, op, ty, pos, after, g⟩ .e ρ own K h = effM (pv P mu op ρ own) own K (effEh P ⟨dst, op, ty, pos, after, g⟩ ρ own K) := by
  simp only [stEh, stE, eff]; cases pv P mu op ρ own <;> rfl

/-! ### Operations that make or write memory -/
def allocH (i : Option TI) (T : Nat) (own : Own) (K : AV → Own → Prop) (_ : HoldK K := ()) : Prop := match i with
  | some i => i.zero.all (·.oneCell') = true ∧ ∀ k, own k = none → K (.raw (.pointer (some ⟨k, 0, none⟩))) (own.set k ⟨T, i.zero.map .raw, 0, i.zero.length⟩)
  | none => False
theorem allocH_some {i : TI} {T : Nat} : allocH (some i) T own K h = (i.zero.all (·.oneCell') = true ∧ ∀ k, own k = none → K (.raw (.pointer (some ⟨k, 0, none⟩))) (own.set k ⟨T, i.zero.map .raw, 0, i.zero.length⟩)) := propext Iff.rfl
theorem effE_alloc {T : Nat} : effEh P ⟨dst, .alloc T, ty, pos, after, g⟩ ρ own K h = allocH (ti P T) T own K := by
  simp only [effEh, effE, allocE, allocH]; cases ti P T <;> rfl
def boxH (T : Nat) (x : AV) (cs : List AV) (own : Own) (K : AV → Own → Prop) (_ : HoldK K := ()) : Prop :=
  okA x ∧ ∀ k, own k = none → K (.raw (.pointer (some ⟨k, 0, none⟩))) (own.set k ⟨T, cs, 0, cs.length⟩)
theorem effE_box {T : Nat} {x : Operand} : effEh P ⟨dst, .box T x, ty, pos, after, g⟩ ρ own K h = boxH T (ρ x) (cellsA (ρ x)) own K := propext Iff.rfl
theorem boxH_eq {T : Nat} {x : AV} {cs : List AV} : boxH T x cs own K h = (okA x ∧ ∀ k, own k = none → K (.raw (.pointer (some ⟨k, 0, none⟩))) (own.set k ⟨T, cs, 0, cs.length⟩)) := propext Iff.rfl
def bsH2 (e : Option TI) (el n : Nat) (parts : List (Nat × AV)) (own : Own) (K : AV → Own → Prop) (_ : HoldK K := ()) : Prop := match e with
  | some e => partsOk e n 0 parts ∧ n * e.size ≤ 16777216 ∧ ∀ k, own k = none → K (.raw (.slice (some ⟨k, 0, none⟩) n n)) (own.set k ⟨el, parts.flatMap (fun p => cellsA p.2), 0, n * e.size⟩)
  | none => False
theorem bsH2_some {e : TI} {el n : Nat} {parts : List (Nat × AV)} : bsH2 (some e) el n parts own K h = (partsOk e n 0 parts ∧ n * e.size ≤ 16777216 ∧ ∀ k, own k = none → K (.raw (.slice (some ⟨k, 0, none⟩) n n)) (own.set k ⟨el, parts.flatMap (fun p => cellsA p.2), 0, n * e.size⟩)) := propext Iff.rfl
def bsH (P : Program) (i : Option TI) (n : Nat) (parts : List (Nat × AV)) (own : Own) (K : AV → Own → Prop) (_ : HoldK K := ()) : Prop := match i with
  | some ⟨.slc el, _, _, _⟩ => bsH2 (ti P el) el n parts own K
  | _ => False
theorem bsH_some {el a b n : Nat} {z : List Value} {parts : List (Nat × AV)} : bsH P (some ⟨.slc el, a, b, z⟩) n parts own K h = bsH2 (ti P el) el n parts own K := propext Iff.rfl
theorem effE_bslice {T n : Nat} {parts : Array (Nat × Operand)} : effEh P ⟨dst, .buildSlice T n parts, ty, pos, after, g⟩ ρ own K h = bsH P (ti P T) n (parts.toList.map fun p => (p.1, ρ p.2)) own K := by
  show bsE P T n _ own K = _
  exact propext Iff.rfl
def storeH3 (o : Option OB) (i : Option TI) (k off : Nat) (x : AV) (own : Own) (K : AV → Own → Prop) (_ : HoldK K := ()) : Prop := match o, i with
  | some o, some i => fitA i x ∧ off + i.size ≤ o.cs.length ∧ o.fz ≤ off ∧ K .any (own.set k { o with cs := putA i.k.agg off x o.cs })
  | _, _ => False
theorem storeH3_some {T : Nat} {cs : List AV} {fz cap : Nat} {i : TI} {k off : Nat} {x : AV} : storeH3 (some ⟨T, cs, fz, cap⟩) (some i) k off x own K h = (fitA i x ∧ off + i.size ≤ cs.length ∧ fz ≤ off ∧ K .any (own.set k ⟨T, putA i.k.agg off x cs, fz, cap⟩)) := propext Iff.rfl
def storeH (P : Program) (T : Nat) (a x : AV) (own : Own) (K : AV → Own → Prop) (_ : HoldK K := ()) : Prop := match a with
  | .raw (.pointer (some ⟨k, off, none⟩)) => storeH3 (own k) (ti P T) k off x own K
  | _ => False
theorem storeH_ptr {T k off : Nat} {x : AV} : storeH P T (.raw (.pointer (some ⟨k, off, none⟩))) x own K h = storeH3 (own k) (ti P T) k off x own K := propext Iff.rfl
theorem effE_store {T : Nat} {a x : Operand} : effEh P ⟨dst, .store T a x, ty, pos, after, g⟩ ρ own K h = storeH P T (ρ a) (ρ x) own K := by
  show storeE P T (ρ a) (ρ x) own K = _
  exact propext Iff.rfl
def makeH2 (e : Option TI) (el : Nat) (n c : Int) (own : Own) (K : AV → Own → Prop) (_ : HoldK K := ()) : Prop := match e with
  | some e => e.zero.all (·.oneCell') = true ∧ e.zero.length = e.size ∧ 0 ≤ n ∧ n ≤ c ∧ c * e.bytes ≤ 281474976710656 ∧ c ≤ 281474976710656 ∧
        ∀ k, own k = none → K (.raw (.slice (some ⟨k, 0, none⟩) n.toNat c.toNat)) (own.set k ⟨el, (List.replicate n.toNat (e.zero.map AV.raw)).flatten, 0, c.toNat * e.size⟩)
  | none => False
theorem makeH2_some {e : TI} {el : Nat} {n c : Int} : makeH2 (some e) el n c own K h = (e.zero.all (·.oneCell') = true ∧ e.zero.length = e.size ∧ 0 ≤ n ∧ n ≤ c ∧ c * e.bytes ≤ 281474976710656 ∧ c ≤ 281474976710656 ∧
        ∀ k, own k = none → K (.raw (.slice (some ⟨k, 0, none⟩) n.toNat c.toNat)) (own.set k ⟨el, (List.replicate n.toNat (e.zero.map AV.raw)).flatten, 0, c.toNat * e.size⟩)) := propext Iff.rfl
def makeH (P : Program) (i : Option TI) (n c : AV) (own : Own) (K : AV → Own → Prop) (_ : HoldK K := ()) : Prop := match i, n, c with
  | some ⟨.slc el, _, _, _⟩, .raw (.int _ n), .raw (.int _ c) => makeH2 (ti P el) el n c own K
  | _, _, _ => False
theorem makeH_some {el a b : Nat} {z : List Value} {k1 k2 : IntKind} {n c : Int} : makeH P (some ⟨.slc el, a, b, z⟩) (.raw (.int k1 n)) (.raw (.int k2 c)) own K h = makeH2 (ti P el) el n c own K := propext Iff.rfl
theorem effE_make {T : Nat} {n c : Operand} : effEh P ⟨dst, .makeSlice T n c, ty, pos, after, g⟩ ρ own K h = makeH P (ti P T) (ρ n) (ρ c) own K := by
  show makeE P T (ρ n) (ρ c) own K = _
  exact propext Iff.rfl
def binH (P : Program) (o : Oper) (ρ : Operand → AV) (own : Own) (b : BinOp) (T : Nat) (x y : AV) (K : AV → Own → Prop) (_ : HoldK K := ()) : Prop := binE' P o ρ own b T x y K
theorem effE_bin {b : BinOp} {T T' : Nat} {x y : Operand} : effEh P ⟨dst, .binOp b T x y T', ty, pos, after, g⟩ ρ own K h = binH P ⟨dst, .binOp b T x y T', ty, pos, after, g⟩ ρ own b T (ρ x) (ρ y) K := propext Iff.rfl
theorem binH_lst {o : Oper} {b : BinOp} {T wd : Nat} {l : List AV} {y : AV} : binH P o ρ own b T (.lst wd l) y K h = eqNilE P b T (.lst wd l) y fun d => K d own := propext Iff.rfl
theorem binH_emp {o : Oper} {b : BinOp} {T : Nat} {y : AV} : binH P o ρ own b T .emp y K h = eqNilE P b T .emp y fun d => K d own := propext Iff.rfl
def callH (P : Program) (o : Oper) (ρ : Operand → AV) (f : AV) (args : List AV) (own : Own) (K : AV → Own → Prop) (_ : HoldK K := ()) : Prop := callE P o ρ f args own K
theorem effE_call {f : Operand} {args : Array Operand} {ts : Array Nat} : effEh P ⟨dst, .call ⟨.value f, args, ts⟩, ty, pos, after, g⟩ ρ own K h = callH P ⟨dst, .call ⟨.value f, args, ts⟩, ty, pos, after, g⟩ ρ (ρ f) (args.toList.map ρ) own K := propext Iff.rfl
theorem callH_clo {o : Oper} {f : Nat} {first cap args : List AV} : callH P o ρ (.clo (.func f) first cap) args own K h = ACs P f (first ++ args ++ cap) own K := propext Iff.rfl

/-! ### append -/
def appH5 (o : Option OB) (el : Nat) (e : TI) (new : List AV) (m k n c : Nat) (own : Own) (K : AV → Own → Prop) (_ : HoldK K := ()) : Prop := match o with
  | some o => o.T = el ∧ n * e.size = o.cs.length ∧ o.cap = c * e.size ∧ (n + m) * e.bytes ≤ 140737488355328 ∧ n + m ≤ 140737488355328 ∧
              ∀ k' c', (k' = k ∨ own k' = none) → n + m ≤ c' → K (.raw (.slice (some ⟨k', 0, none⟩) (n + m) c')) (own.move k k' ⟨el, o.cs ++ new, o.fz, c' * e.size⟩)
  | none => False
theorem appH5_some {T : Nat} {cs : List AV} {fz cap el : Nat} {e : TI} {new : List AV} {m k n c : Nat} : appH5 (some ⟨T, cs, fz, cap⟩) el e new m k n c own K h = (T = el ∧ n * e.size = cs.length ∧ cap = c * e.size ∧ (n + m) * e.bytes ≤ 140737488355328 ∧ n + m ≤ 140737488355328 ∧
              ∀ k' c', (k' = k ∨ own k' = none) → n + m ≤ c' → K (.raw (.slice (some ⟨k', 0, none⟩) (n + m) c')) (own.move k k' ⟨el, cs ++ new, fz, c' * e.size⟩)) := propext Iff.rfl
def appH6 (o : Option OB) (el : Nat) (e : TI) (new : List AV) (m k n c : Nat) (own : Own) (K : AV → Own → Prop) (_ : HoldK K := ()) : Prop := match o with
  | some o => o.T = el ∧ o.fz ≤ n * e.size ∧ (n + m) * e.size ≤ o.cs.length ∧ n + m ≤ c ∧ o.cap = c * e.size ∧
              K (.raw (.slice (some ⟨k, 0, none⟩) (n + m) c)) (own.set k ⟨el, o.cs.take (n * e.size) ++ new ++ o.cs.drop ((n + m) * e.size), o.fz, o.cap⟩)
  | none => False
theorem appH6_some {T : Nat} {cs : List AV} {fz cap el : Nat} {e : TI} {new : List AV} {m k n c : Nat} : appH6 (some ⟨T, cs, fz, cap⟩) el e new m k n c own K h = (T = el ∧ fz ≤ n * e.size ∧ (n + m) * e.size ≤ cs.length ∧ n + m ≤ c ∧ cap = c * e.size ∧
              K (.raw (.slice (some ⟨k, 0, none⟩) (n + m) c)) (own.set k ⟨el, cs.take (n * e.size) ++ new ++ cs.drop ((n + m) * e.size), fz, cap⟩)) := propext Iff.rfl
def appH4 (rb : Bool) (el : Nat) (e : TI) (new : List AV) (m : Nat) (s : AV) (own : Own) (K : AV → Own → Prop) (_ : HoldK K := ()) : Prop := match s with
  | .emp => m * e.bytes ≤ 140737488355328 ∧ m ≤ 140737488355328 ∧ Arm (m = 0) (K .emp own) ∧ Arm (m ≠ 0) (∀ k c, own k = none → m ≤ c → K (.raw (.slice (some ⟨k, 0, none⟩) m c)) (own.set k ⟨el, new, 0, c * e.size⟩))
  | .raw (.slice none 0 0) => m * e.bytes ≤ 140737488355328 ∧ m ≤ 140737488355328 ∧ Arm (m = 0) (K .emp own) ∧ Arm (m ≠ 0) (∀ k c, own k = none → m ≤ c → K (.raw (.slice (some ⟨k, 0, none⟩) m c)) (own.set k ⟨el, new, 0, c * e.size⟩))
  | .raw (.slice (some ⟨k, 0, none⟩) n c) => match rb with
    | true => appH6 (own k) el e new m k n c own K
    | false => appH5 (own k) el e new m k n c own K
  | _ => False
theorem appH4_emp {rb : Bool} {el : Nat} {e : TI} {new : List AV} {m : Nat} : appH4 rb el e new m .emp own K h = (m * e.bytes ≤ 140737488355328 ∧ m ≤ 140737488355328 ∧ Arm (m = 0) (K .emp own) ∧ Arm (m ≠ 0) (∀ k c, own k = none → m ≤ c → K (.raw (.slice (some ⟨k, 0, none⟩) m c)) (own.set k ⟨el, new, 0, c * e.size⟩))) := propext Iff.rfl
theorem appH4_nil {rb : Bool} {el : Nat} {e : TI} {new : List AV} {m : Nat} : appH4 rb el e new m (.raw (.slice none 0 0)) own K h = (m * e.bytes ≤ 140737488355328 ∧ m ≤ 140737488355328 ∧ Arm (m = 0) (K .emp own) ∧ Arm (m ≠ 0) (∀ k c, own k = none → m ≤ c → K (.raw (.slice (some ⟨k, 0, none⟩) m c)) (own.set k ⟨el, new, 0, c * e.size⟩))) := propext Iff.rfl
theorem appH4_row {el : Nat} {e : TI} {new : List AV} {m k n c : Nat} : appH4 false el e new m (.raw (.slice (some ⟨k, 0, none⟩) n c)) own K h = appH5 (own k) el e new m k n c own K := propext Iff.rfl
theorem appH4_rowR {el : Nat} {e : TI} {new : List AV} {m k n c : Nat} : appH4 true el e new m (.raw (.slice (some ⟨k, 0, none⟩) n c)) own K h = appH6 (own k) el e new m k n c own K := propext Iff.rfl
def appH3 (rb : Bool) (x : Option (Prop × List AV × Nat)) (el : Nat) (e : TI) (s : AV) (own : Own) (K : AV → Own → Prop) (_ : HoldK K := ()) : Prop := match x with
  | some (c, new, m) => c ∧ e.size ≠ 0 ∧ e.zero.length = e.size ∧ appH4 rb el e new m s own K
  | none => False
theorem appH3_some {rb : Bool} {c : Prop} {new : List AV} {m el : Nat} {e : TI} {s : AV} : appH3 rb (some (c, new, m)) el e s own K h = (c ∧ e.size ≠ 0 ∧ e.zero.length = e.size ∧ appH4 rb el e new m s own K) := propext Iff.rfl
def appH2 (e : Option TI) (u : TK) (el : Nat) (s x : AV) (own : Own) (K : AV → Own → Prop) (_ : HoldK K := ()) : Prop := match e with
  | some e => appH3 (rowB x) (srcA u e.size x own) el e s own K
  | none => False
theorem appH2_some {e : TI} {u : TK} {el : Nat} {s x : AV} : appH2 (some e) u el s x own K h = appH3 (rowB x) (srcA u e.size x own) el e s own K := propext Iff.rfl
def appH (P : Program) (i u : Option TI) (s x : AV) (own : Own) (K : AV → Own → Prop) (_ : HoldK K := ()) : Prop := match i, u with
  | some ⟨.slc el, _, _, _⟩, some u => appH2 (ti P el) u.k el s x own K
  | _, _ => False
theorem appH_some {el a b : Nat} {z : List Value} {u : TI} {s x : AV} : appH P (some ⟨.slc el, a, b, z⟩) (some u) s x own K h = appH2 (ti P el) u.k el s x own K := propext Iff.rfl
theorem effE_append {s x : Operand} {T U : Nat} : effEh P ⟨dst, .call ⟨.builtin .append, #[s, x], #[T, U]⟩, ty, pos, after, g⟩ ρ own K h = appH P (ti P T) (ti P U) (ρ s) (ρ x) own K := by
  show appE P T U (ρ s) (ρ x) own K = _
  exact propext Iff.rfl

/-! ### The end of a body -/
def endH (x : Option (Prop × List AV)) (own : Own) (K : AV → Own → Prop) (_ : HoldK K := ()) : Prop := match x with
  | some (c, ds) => c ∧ K (tupA ds) own
  | none => False
theorem endH_some {c : Prop} {ds : List AV} : endH (some (c, ds)) own K h = (c ∧ K (tupA ds) own) := propext Iff.rfl
theorem endA_H {rs : List ResultVar} {s : St} : endA P rs K s = endH (resAs P s rs) s.own K := by
  simp only [endA, endH] <;> (cases resAs P s rs <;> rfl)
end
end
end Go.Proofs.YtghnigbihllnmaaGreat.Hl

/- What the symbolic run of a body unfolds. No condition. -/
set_option linter.unusedVariables false
set_option linter.unusedSimpArgs false

namespace Go.Proofs.YtghnigbihllnmaaGreat.Hl
open Go
attribute [go_sem] wpC_skip wpC_drawn wpC_region wpC_seq wpC_cond wpC_block wpC_exit wpC_ret wpC_loop condH_bool wpL_nilH wpL_consH wpD_nilH wpD_consH guardH_true guardH_false guardH_skip stGh_none stGh_some effM_some effM_none stEh_v stEh_r stEh_c stEh_e allocH_some effE_alloc effE_box boxH_eq bsH2_some bsH_some effE_bslice storeH3_some storeH_ptr effE_store makeH2_some makeH_some effE_make effE_bin binH_lst binH_emp effE_call callH_clo appH5_some appH4_emp appH4_nil appH4_row appH4_rowR appH6_some rowB appH3_some appH2_some appH_some effE_append endH_some endA_H pv pvPick pickA pvBin pvUn pvConv pvLoad trueA pvFaddr pvField pvIaddr pvIndex pvSlice pvLen pvCall binV binE unV convA strA sliceBytes loadA nilA fieldA faddrA subA subOk partA putA iaddrA elemOfK indexA idxA sliceA bndA extractA buildV buildA putCells fitQ bsA partsOk lenA mmA srcA eqNilE muOf memB gv St.ev upd constA thenA inBlockA bodyQ resAs resA tupA startA argTm tmL_nil tmL_cons items TK.agg
attribute [go_sem] List.toList_toArray List.getElem?_cons_zero List.getElem?_cons_succ List.getElem?_nil List.getElem?_toArray Option.getD_some Option.getD_none Option.bind_some Option.bind_none Option.map_some Option.map_none true_and and_true List.map_cons List.map_nil List.nil_append List.append_nil List.cons_append List.drop_zero List.drop_succ_cons List.take_succ_cons List.take_zero List.length_cons List.length_nil List.flatMap_cons List.flatMap_nil List.zip_cons_cons List.zip_nil_right List.zipIdx_cons List.zipIdx_nil List.contains_nil List.all_cons List.all_nil Bool.and_true Bool.true_and Value.oneCell' Own.set_same Own.move_same
theorem cellsA_raw (v : Value) : cellsA (.raw v) = [.raw v] := rfl
theorem cellsA_lst (n : Nat) (l : List AV) : cellsA (.lst n l) = [.lst n l] := rfl
theorem cellsA_ref (d : AV) : cellsA (.ref d) = [.ref d] := rfl
theorem cellsA_clo (f : Fn) (a b : List AV) : cellsA (.clo f a b) = [.clo f a b] := rfl
theorem cellsA_st (l : List AV) : cellsA (.st l) = l := rfl
theorem cellsA_emp : cellsA .emp = [.emp] := rfl
theorem cellsA_byte (b : UInt8) : cellsA (byteA b) = [byteA b] := rfl
theorem fitA_raw (i : TI) (v : Value) : fitA i (.raw v) = (i.k.agg = false ∧ i.size = 1) := rfl
theorem fitA_lst (i : TI) (n : Nat) (l : List AV) : fitA i (.lst n l) = (i.k.agg = false ∧ i.size = 1) := rfl
theorem fitA_ref (i : TI) (d : AV) : fitA i (.ref d) = (i.k.agg = false ∧ i.size = 1) := rfl
theorem fitA_clo (i : TI) (f : Fn) (a b : List AV) : fitA i (.clo f a b) = (i.k.agg = false ∧ i.size = 1) := rfl
theorem fitA_emp (i : TI) : fitA i .emp = (i.k.agg = false ∧ i.size = 1) := rfl
theorem fitA_st (i : TI) (l : List AV) : fitA i (.st l) = (i.k.agg = true ∧ l.length = i.size) := rfl
theorem fitA_byte (i : TI) (b : UInt8) : fitA i (byteA b) = (i.k.agg = false ∧ i.size = 1) := rfl
theorem okA_byte (b : UInt8) : okA (byteA b) = True := rfl
attribute [go_sem] cellsA_raw cellsA_lst cellsA_ref cellsA_clo cellsA_st cellsA_emp cellsA_byte fitA_raw fitA_lst fitA_ref fitA_clo fitA_emp fitA_st fitA_byte okA_byte
attribute [go_sem] List.getD_cons_zero List.getD_cons_succ List.set_cons_zero List.set_cons_succ implies_true true_implies forall_const
theorem okA_raw (v : Value) : okA (.raw v) = True := rfl
theorem okA_lst (n : Nat) (l : List AV) : okA (.lst n l) = True := rfl
theorem okA_ref (d : AV) : okA (.ref d) = True := rfl
theorem okA_clo (f : Fn) (a b : List AV) : okA (.clo f a b) = True := rfl
theorem okA_st (l : List AV) : okA (.st l) = True := rfl
theorem okA_emp : okA .emp = True := rfl
attribute [go_sem] okA_raw okA_lst okA_ref okA_clo okA_st okA_emp and_true true_and and_false false_and or_true true_or or_false false_or Nat.mul_one Nat.one_mul Nat.zero_add Nat.add_zero Nat.mul_zero Nat.zero_mul Nat.le_refl Nat.zero_le Bool.not_true Bool.not_false
attribute [go_sem] AV.raw.injEq AV.st.injEq AV.tup.injEq AV.lst.injEq Value.int.injEq Value.bool.injEq Value.string.injEq Value.slice.injEq List.cons.injEq List.flatten_replicate_singleton Own.set_set
theorem forall_nil (p : AV → Prop) : (∀ d ∈ ([] : List AV), p d) = True := by simp
theorem forall_cons (p : AV → Prop) (a : AV) (l : List AV) : (∀ d ∈ a :: l, p d) = (p a ∧ ∀ d ∈ l, p d) := by simp
theorem cast_one' : ((1 : Nat) : Int) = 1 := rfl
attribute [go_sem] forall_nil forall_cons cast_one' Int.mul_one Int.toNat_natCast
attribute [go_sem] Br_true Br_false BrG beq_self_eq_true Arm_true Arm_false eqStV eqSt eqFs eqOne
attribute [go_sem] Int.cast_ofNat_Int imp_self not_false_eq_true ne_eq and_self decide_true decide_false not_true_eq_false
theorem puts_some (n : Nat) (tm : Nat → AV) (own0 own : Own) (t : Nat) (d : AV) (K : St → Prop) (hK : HoldS K) : St.puts ⟨n, tm, own0⟩ (some t) d own K hK = (t < n ∧ K ⟨n, upd tm t d, own⟩) := rfl
theorem puts_none (n : Nat) (tm : Nat → AV) (own0 own : Own) (d : AV) (K : St → Prop) (hK : HoldS K) : St.puts ⟨n, tm, own0⟩ none d own K hK = K ⟨n, tm, own⟩ := rfl
attribute [go_sem] puts_some puts_none
theorem append_cons' {α : Type} (a : α) (l m : List α) : List.append (a :: l) m = a :: List.append l m := rfl
theorem append_nil' {α : Type} (m : List α) : List.append [] m = m := rfl
attribute [go_sem] append_cons' append_nil'
theorem take_byte (n : Nat) (l : List UInt8) : List.take n (l.map byteA) = (l.take n).map byteA := List.map_take.symm
theorem drop_byte (n : Nat) (l : List UInt8) : List.drop n (l.map byteA) = (l.drop n).map byteA := List.map_drop.symm
theorem len_byte (l : List UInt8) : (l.map byteA).length = l.length := List.length_map _
theorem take_drop_self {α : Type} (n : Nat) (l : List α) : List.take (l.length - n) (List.drop n l) = List.drop n l := List.take_of_length_le (by simp)
attribute [go_sem] take_byte drop_byte len_byte take_drop_self Nat.sub_zero bytesOf_map
end Go.Proofs.YtghnigbihllnmaaGreat.Hl

/- A loop of few rounds, taken round by round. -/
set_option linter.unusedVariables false
set_option linter.unusedSimpArgs false
namespace Go.Proofs.YtghnigbihllnmaaGreat.Hl
open Go
/-- At most n rounds of a loop. -/
def wpR (P : Program) (M : List Nat) (c : Code) (Q : Exit → St → Prop) : Nat → St → Prop
  | 0, _ => False
  | n + 1, s => wpC P M c (thenA (wpR P M c Q n) Q) s
theorem AW.rounds {P : Program} {M : List Nat} {c : Code} {Q : Exit → St → Prop} (n : Nat) {s : St} (h : wpR P M c Q n s) : AW P (.loop c) Q s := by
  intro B w F a hr
  refine wp_loop_rounds n ?_
  induction n generalizing s w F a with
  | zero => exact h.elim
  | succ n ih =>
    refine wp_mono (wpC_sound h B w F a hr) ?_
    rintro e a' w' ⟨s', F', r, q⟩
    cases e with
    | normal => exact ih q w' F' a' r
    | _ => exact ⟨s', F', r, q⟩
attribute [go_sem] wpR
end Go.Proofs.YtghnigbihllnmaaGreat.Hl

/- Calls that write nothing that was there and whose result is one of several. No condition. -/
set_option linter.unusedVariables false
set_option linter.unusedSimpArgs false
namespace Go.Proofs.YtghnigbihllnmaaGreat.Hl
open Go
/-- A call that writes nothing of the caller's; its result has a property. -/
def PN (P : Program) (f : Nat) (args : List AV) (S : AV → Prop) : Prop :=
  ∀ w F vs, WF w F → Reps w F args vs → CallRes P f vs.toArray w fun v w' => ∃ F' d, Ext w F w' F' ∧ Rep w' F' d v ∧ S d
theorem PN.of_ac {P : Program} {f : Nat} {args : List AV} {S : AV → Prop} (h : AC P f args noOwn fun d own' => S d) : PN P f args S :=
  fun w F vs hf hr => (h w F vs hf (fun _ _ h => by cases h) hr).mono fun v w' ⟨F', d', own', a, b, c⟩ => ⟨F', d', Ext.of_ws a, b, c⟩
theorem PN.post {P : Program} {f : Nat} {args : List AV} {S : AV → Prop} (h : AC P f args noOwn fun d own' => ∃ d' own'', Weak1 own' d own'' d' ∧ S d') : PN P f args S :=
  PN.of_ac (h.post fun d own' ⟨d', own'', hw, hs⟩ => ⟨d', own'', hw, hs⟩)
theorem PN.of_pc {P : Program} {f : Nat} {args : List AV} {S : AV → Prop} {d : AV} (h : PC P f args d) (hs : S d) : PN P f args S :=
  fun w F vs hf hr => (h w F vs hf hr).mono fun v w' ⟨F', a, b⟩ => ⟨F', d, a, b, hs⟩
theorem PN.ac {P : Program} {f : Nat} {args : List AV} {S : AV → Prop} (h : PN P f args S) {own : Own} {K : AV → Own → Prop} (hk : ∀ d, S d → K d own) : AC P f args own K :=
  fun w F vs hf ho hr => (h w F vs hf hr).mono fun v w' ⟨F', d, a, b, c⟩ => ⟨F', d, own, a.ws ho, b, hk d c⟩
theorem ACs.pn {P : Program} {f : Nat} {args : List AV} {S : AV → Prop} {own : Own} {K : AV → Own → Prop} {hK : HoldK K} (h : PN P f args S) (hk : ∀ d, S d → K d own) : ACs P f args own K hK := h.ac hk
/-- A tuple seen in a weaker way. -/
theorem Weak1.tup {own own' : Own} {ds ds' : List AV} (h : Weak own ds own' ds') : Weak1 own (.tup ds) own' (.tup ds') := fun w F v hf ho hr => by
  simp only [Rep] at hr ⊢
  obtain ⟨xs, rfl, hx⟩ := hr
  obtain ⟨F', h1, h2⟩ := h w F xs hf ho hx
  exact ⟨F', h1, xs, rfl, h2⟩
/-- (nil, e) is ([], e). -/
theorem Weak1.nil2 {own : Own} {wd : Nat} {e : AV} : Weak1 own (.tup [.raw (.slice none 0 0), e]) own (.tup [.lst wd [], e]) :=
  Weak1.tup (Weak.one (pre := []) Weak1.nil)
theorem Own.del_ne (own : Own) {k j : Nat} (h : j ≠ k) : own.del k j = own j := if_neg h
/-- A box of one's own, given up and seen as a pointer to what nobody writes. -/
theorem Weak1.box {own : Own} {k : Nat} {o : OB} {d : AV} (hk : own k = some o) (hd : elemOk o.cs.length d) (hc : cellsA d = o.cs) :
    Weak1 own (.raw (.pointer (some ⟨k, 0, none⟩))) (own.del k) (.ref d) := by
  intro w F v hf ho hr
  simp only [Rep] at hr
  rw [hr.1]
  refine ⟨_, WS.freeze hf ho hk, ?_⟩
  have h := ho k o hk
  obtain ⟨xs, g1, g2, g3⟩ := Holds.frz (off := 0) (n := o.cs.length) h (by omega)
  rw [List.drop_zero, List.take_of_length_le (Nat.le_refl _)] at g1
  have g1' : Reps w (FrzTo F k o.cs.length) ([d].flatMap cellsA) xs := by simp only [List.flatMap_cons, List.flatMap_nil, List.append_nil, hc]; exact g1
  have hL := RepL.of_cells (l := [d]) (wd := o.cs.length) (off := 0) (by simpa using hd) g1' g2 g3
  simp only [RepL] at hL
  obtain ⟨⟨x, h1, _, h3⟩, _⟩ := hL
  simp only [Rep]
  exact ⟨k, 0, x, rfl, h1, h3⟩
/-- What is there is there later, too. -/
def Sub (own own1 : Own) : Prop := ∀ j o, own j = some o → own1 j = some o
theorem Sub.refl (own : Own) : Sub own own := fun _ _ h => h
theorem Sub.set {a b : Own} {k : Nat} {o : OB} (h : Sub a b) : Sub (a.set k o) (b.set k o) := fun j q hj => by
  simp only [Own.set] at hj ⊢
  split
  · rename_i e; rw [if_pos e] at hj; exact hj
  · rename_i e; rw [if_neg e] at hj; exact h j q hj
theorem Sub.fresh {a b : Own} {k : Nat} {o : OB} (hk : a k = none) (h : Sub a b) : Sub a (b.set k o) := fun j q hj => by
  simp only [Own.set]
  split
  · rename_i e; rw [e, hk] at hj; cases hj
  · exact h j q hj
theorem Sub.del {a b : Own} {k : Nat} (hk : a k = none) (h : Sub a b) : Sub a (b.del k) := fun j q hj => by
  simp only [Own.del]
  split
  · rename_i e; rw [e, hk] at hj; cases hj
  · exact h j q hj
/-- A contract whose other objects are forgotten. -/
theorem AC.sub {P : Program} {f : Nat} {args : List AV} {own own' : Own} {K : AV → Own → Prop} {d0 : AV} (h : AC P f args own fun d own1 => d = d0 ∧ Sub own' own1) (hk : K d0 own') : AC P f args own K :=
  AC.post h fun d own1 ⟨e, hs⟩ => ⟨d0, own', e ▸ Weak1.drop hs, hk⟩
theorem some_ne {own : Own} {k j : Nat} {o : OB} (h : own k = some o) (h' : own j = none) : j ≠ k := by
  intro e; rw [e, h] at h'; cases h'
/-- A call whose answer is known, as a value. -/
theorem VSem.call {P : Program} {dst : Option Nat} {fo : Operand} {args : Array Operand} {ts : Array Nat} {ty : Nat} {pos : String} {after : Array Edge} {g : Option (Nat × Bool)} {ρ : Operand → AV} {own : Own} {f : Nat} {d : AV} {as : List AV}
    (hf' : ρ fo = .clo (.func f) [] []) (ha : args.toList.map ρ = as) (h : PC P f as d) : VSem P ⟨dst, .call ⟨.value fo, args, ts⟩, ty, pos, after, g⟩ ρ own d := by
  intro w F ev hf ho hr
  have h1 := hr fo (by simp [Op.operands, Call.operands])
  rw [hf'] at h1
  simp only [Rep, Reps] at h1
  obtain ⟨xs, ys, e, rfl, rfl⟩ := h1
  have hargs : Reps w F (args.toList.map ρ) (args.toList.map ev) := Reps.map_ev fun x hx => hr x (by simp only [Op.operands, Call.operands]; simp at hx ⊢; exact .inr hx)
  rw [ha] at hargs
  have := h w F _ hf hargs
  unfold OpRes
  have hrun : (execOp ev ⟨dst, .call ⟨.value fo, args, ts⟩, ty, pos, after, g⟩).run P w = (callFunc f (args.toList.map ev).toArray).run P w := by
    simp only [execOp, resolve, e, Deferred.ofValue, Sem.run_bind, Sem.run_pure, Result.andThen_ok, invoke]
    congr 2
    apply Array.ext'
    simp
  rw [hrun]
  unfold CallRes at this
  split at this
  · rename_i v w' e; rw [e]; exact this
  · rename_i g as w' e; rw [e]; exact this
  · exact this.elim
/-- A row of one's own, seen as a list and still one's own. -/
theorem Weak1.share {own : Own} {k n c off wd : Nat} {o : OB} {l : List AV} (hk : own k = some o) (hl : Lies wd o.cs off l) (hn : n = l.length) (hc : n ≤ c) (hm : n ≤ 9223372036854775807) :
    Weak1 own (.raw (.slice (some ⟨k, off, none⟩) n c)) (own.set k { o with fz := o.cs.length }) (.lst wd l) := by
  subst hn
  intro w F v hf ho hr
  simp only [Rep] at hr
  rw [hr.1]
  exact ⟨_, WS.share hf ho hk, Rep.frz (ho k o hk) hl hc hm⟩
theorem none_ne {own : Own} {k j : Nat} {o : OB} (h : own.set k o j = none) : j ≠ k := by
  intro e
  subst e
  rw [Own.set_same] at h
  cases h
end Go.Proofs.YtghnigbihllnmaaGreat.Hl
