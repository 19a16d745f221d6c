/- What the proofs of single functions use: slots by a list, objects renamed, memory frozen at the end, nil seen as empty. No condition. -/
import Derived.Test.YtenfgknhongaaaaHl9
set_option linter.unusedVariables false
set_option linter.unusedSimpArgs false

namespace Go.Proofs.Ytenfgknhongaaaa.Hl
open Go

/-- Slots by a list; the others are not spoken of. -/
def tmL : List (Nat × AV) → Nat → AV
  | [], _ => .any
  | (k, d) :: l, t => if t = k then d else tmL l t
theorem tmL_nil (t : Nat) : tmL [] t = .any := rfl
theorem tmL_cons (k : Nat) (d : AV) (l : List (Nat × AV)) (t : Nat) : tmL ((k, d) :: l) t = if t = k then d else tmL l t := rfl
theorem tmL_le {f : Nat → AV} : ∀ {l : List (Nat × AV)}, (∀ p ∈ l, f p.1 = p.2) → ∀ t, tmL l t = .any ∨ f t = tmL l t
  | [], _, t => .inl rfl
  | (k, d) :: l, h, t => by
    simp only [tmL]
    split
    · rename_i e; subst e; exact .inr (h (t, d) (by simp))
    · exact tmL_le (fun p hp => h p (by simp [hp])) t
theorem Le.of {n : Nat} {f : Nat → AV} {own own' : Own} {l : List (Nat × AV)} (h : ∀ p ∈ l, f p.1 = p.2) (ho : ∀ k o, own' k = some o → own k = some o) : Le ⟨n, f, own⟩ ⟨n, tmL l, own'⟩ :=
  ⟨rfl, tmL_le h, ho⟩
theorem Ghost.of {n : Nat} {f : Nat → AV} {own own' : Own} {l : List (Nat × AV)} (h : ∀ p ∈ l, f p.1 = p.2) (ho : ∀ k o, own' k = some o → own k = some o) : Ghost ⟨n, f, own⟩ ⟨n, tmL l, own'⟩ :=
  (Le.of h ho).ghost
theorem Ghost.same {n : Nat} {f : Nat → AV} {own : Own} {l : List (Nat × AV)} (h : ∀ p ∈ l, f p.1 = p.2) : Ghost ⟨n, f, own⟩ ⟨n, tmL l, own⟩ := Ghost.of h fun _ _ h => h
theorem Ghost.refl (s : St) : Ghost s s := fun B w F a h => ⟨F, h⟩

theorem all_nil {α : Type} {p : α → Prop} : ∀ x ∈ ([] : List α), p x := fun _ h => by cases h
theorem all_cons {α : Type} {p : α → Prop} {a : α} {l : List α} (h : p a) (hl : ∀ x ∈ l, p x) : ∀ x ∈ a :: l, p x := fun x hx => by
  rcases List.mem_cons.1 hx with rfl | hx
  · exact h
  · exact hl x hx

/-! ### Objects -/
theorem Own.set_same (own : Own) (k : Nat) (o : OB) : own.set k o k = some o := if_pos rfl
theorem Own.set_ne (own : Own) {k j : Nat} (o : OB) (h : j ≠ k) : own.set k o j = own j := if_neg h
theorem Own.set_set (own : Own) (k : Nat) (o o' : OB) : (own.set k o).set k o' = own.set k o' := by funext j; simp only [Own.set]; split <;> rfl
theorem Own.set_move {own : Own} {k : Nat} (h : own k = none) (k' : Nat) (o o' : OB) : (own.set k o).move k k' o' = own.set k' o' := by
  funext j
  simp only [Own.set, Own.move]
  split
  · rfl
  · split
    · rename_i e; rw [e]; exact h.symm
    · rfl
theorem Own.set_del {own : Own} {k : Nat} (h : own k = none) (o : OB) : (own.set k o).del k = own := by
  funext j
  simp only [Own.set, Own.del]
  split
  · rename_i e; rw [e]; exact h.symm
  · rfl
theorem Own.move_same (own : Own) (k k' : Nat) (o : OB) : own.move k k' o k' = some o := if_pos rfl
theorem noOwn_at (k : Nat) : noOwn k = none := rfl

/-! ### Freezing -/
def elemOk (wd : Nat) : AV → Prop
  | .st cs => cs.length = wd
  | .tup _ | .any => False
  | _ => wd = 1
theorem elemOk_cells {wd : Nat} {d : AV} (h : elemOk wd d) : (cellsA d).length = wd ∧ okA d := by
  cases d <;> simp only [elemOk] at h <;> simp [cellsA, okA, h]

/-- Cells that are the elements of a list. -/
theorem RepL.of_cells {w : World} {F : Frz} {k wd : Nat} : ∀ {l : List AV} {xs : List Value} {off : Nat}, (∀ d ∈ l, elemOk wd d) → Reps w F (l.flatMap cellsA) xs → (∀ x ∈ xs, x.oneCell' = true) → Holds w F k off xs → RepL w F k off wd l
  | [], xs, off, _, _, _, _ => by simp [RepL]
  | d :: l, xs, off, hd, hr, h1, hh => by
    simp only [List.flatMap_cons] at hr
    obtain ⟨a, b, rfl, ha, hb⟩ := hr.split
    obtain ⟨g1, g2⟩ := hh.append
    obtain ⟨e1, e2⟩ := elemOk_cells (hd d (by simp))
    have hal : a.length = wd := by rw [ha.length, e1]
    simp only [RepL]
    refine ⟨?_, RepL.of_cells (fun d' hd' => hd d' (by simp [hd'])) hb (fun x hx => h1 x (by simp [hx])) (by rw [hal] at g2; exact g2)⟩
    have hk := hd d (by simp)
    have one : ∀ {d}, cellsA d = [d] → Reps w F (cellsA d) a → wd = 1 → ∃ x, Rep w F d x ∧ x.cells.size = wd ∧ Holds w F k off x.cells.toList := by
      intro d hc ha hw
      rw [hc] at ha
      simp only [Reps] at ha
      obtain ⟨x, ys, rfl, hx, rfl⟩ := ha
      have := cells_one (h1 x (by simp))
      exact ⟨x, hx, by rw [this, hw]; rfl, by rw [this]; exact g1⟩
    cases d with
    | st cs =>
      simp only [elemOk] at hk
      refine ⟨.agg a.toArray, ?_, by simpa [Value.cells] using hal, by simpa [Value.cells] using g1⟩
      simp only [Rep]
      exact ⟨a, rfl, by simpa [cellsA] using ha, fun x hx => h1 x (by simp [hx])⟩
    | tup ds => exact hk.elim
    | any => exact hk.elim
    | _ => exact one rfl ha hk

/-- The cells of an object of one's own, from off on, that are the elements of l. -/
def Lies (wd : Nat) (cs : List AV) (off : Nat) (l : List AV) : Prop := (∀ d ∈ l, elemOk wd d) ∧ off + l.length * wd ≤ cs.length ∧ (cs.drop off).take (l.length * wd) = l.flatMap cellsA

def FrzTo (F : Frz) (k n : Nat) : Frz := fun b i => F b i ∨ (b = k ∧ i < n)

/-- An object is given up: it is frozen. -/
theorem WS.freeze {w : World} {F : Frz} {own : Own} (hf : WF w F) (ho : Owns w F own) {k : Nat} {o : OB} (hk : own k = some o) : WS ⟨w, F, own⟩ w (FrzTo F k o.cs.length) (own.del k) where
  os := rfl
  tape := rfl
  output := rfl
  size := Nat.le_refl _
  keep b hb hn := by
    simp only at hn
    have hne : b ≠ k := by intro h; rw [h, hk] at hn; cases hn
    exact ⟨rfl, by simp [Own.del, hne, hn], fun i hi => hi.elim id fun h => absurd h.1 hne⟩
  kept j i hj := ⟨.inl hj, rfl⟩
  wf j i hj := by rcases hj with hj | ⟨rfl, _⟩; exact hf j i hj; exact (ho _ o hk).lt
  owns j q hj := by
    simp only [Own.del] at hj
    split at hj
    · cases hj
    · rename_i hne
      exact (ho j q hj).mono (fun _ _ h => ⟨.inl h, rfl⟩) rfl fun i hi => hi.elim id fun h => absurd h.1 hne
/-- An object is shared: what it holds is frozen, it may still grow. -/
theorem WS.share {w : World} {F : Frz} {own : Own} (hf : WF w F) (ho : Owns w F own) {k : Nat} {o : OB} (hk : own k = some o) : WS ⟨w, F, own⟩ w (FrzTo F k o.cs.length) (own.set k { o with fz := o.cs.length }) where
  os := rfl
  tape := rfl
  output := rfl
  size := Nat.le_refl _
  keep b hb hn := by
    simp only at hn
    have hne : b ≠ k := by intro h; rw [h, hk] at hn; cases hn
    exact ⟨rfl, by simp [Own.set, hne, hn], fun i hi => hi.elim id fun h => absurd h.1 hne⟩
  kept j i hj := ⟨.inl hj, rfl⟩
  wf j i hj := by rcases hj with hj | ⟨rfl, _⟩; exact hf j i hj; exact (ho _ o hk).lt
  owns j q hj := by
    have hkept : Kept w F w (FrzTo F k o.cs.length) := fun _ _ h => ⟨.inl h, rfl⟩
    simp only [Own.set] at hj
    split at hj
    · rename_i e
      injection hj with hj
      subst hj
      subst e
      obtain ⟨arr, h1, h2, h3, h4, h5, h6, h7⟩ := ho j o hk
      exact ⟨arr, h1, h2, h3, h4.mono hkept _ _, h5, fun i hi => hi.elim (fun h => Nat.lt_of_lt_of_le (h6 i h) h7) fun h => h.2, Nat.le_refl _⟩
    · rename_i hne
      exact (ho j q hj).mono hkept rfl fun i hi => hi.elim id fun h => absurd h.1 hne
theorem Holds.frz {w : World} {F : Frz} {k : Nat} {o : OB} (h : OwnAt w F k o) {off n : Nat} (hn : off + n ≤ o.cs.length) :
    ∃ xs, Reps w (FrzTo F k o.cs.length) ((o.cs.drop off).take n) xs ∧ (∀ x ∈ xs, x.oneCell' = true) ∧ Holds w (FrzTo F k o.cs.length) k off xs := by
  obtain ⟨xs, g1, g2, g3, g4⟩ := h.cells off n hn
  refine ⟨xs, g3.mono (fun _ _ h => ⟨.inl h, rfl⟩) _ _, g4, fun i v hi => ⟨.inr ⟨rfl, ?_⟩, g2 i v hi⟩⟩
  have : i < xs.length := (List.getElem?_eq_some_iff.1 hi).1
  omega
theorem Rep.frz {w : World} {F : Frz} {k : Nat} {o : OB} (h : OwnAt w F k o) {off wd c : Nat} {l : List AV} (hl : Lies wd o.cs off l) (hc : l.length ≤ c) (hm : l.length ≤ 9223372036854775807) :
    Rep w (FrzTo F k o.cs.length) (.lst wd l) (.slice (some ⟨k, off, none⟩) l.length c) := by
  obtain ⟨h1, h2, h3⟩ := hl
  obtain ⟨xs, g1, g2, g3⟩ := Holds.frz h h2
  rw [h3] at g1
  simp only [Rep]
  exact ⟨_, c, rfl, hc, hm, fun _ => ⟨k, off, rfl, RepL.of_cells h1 g1 g2 g3⟩⟩

/-- One value seen in a weaker way. -/
def Weak1 (own : Own) (d : AV) (own' : Own) (d' : AV) : Prop :=
  ∀ w F v, WF w F → Owns w F own → Rep w F d v → ∃ F', WS ⟨w, F, own⟩ w F' own' ∧ Rep w F' d' v
theorem Weak1.refl (own : Own) (d : AV) : Weak1 own d own d := fun w F v hf ho hr => ⟨F, (Ext.refl hf).ws ho, hr⟩
theorem Weak1.trans {own own1 own2 : Own} {a a1 a2 : AV} (h : Weak1 own a own1 a1) (h' : Weak1 own1 a1 own2 a2) : Weak1 own a own2 a2 :=
  fun w F v hf ho hr => by
    obtain ⟨F1, h1, r1⟩ := h w F v hf ho hr
    obtain ⟨F2, h2, r2⟩ := h' w F1 v h1.wf h1.owns r1
    exact ⟨F2, h1.trans h2, r2⟩
/-- A row of one's own, given up and seen as a list. -/
theorem Weak1.row {own : Own} {k n c off wd : Nat} {o : OB} {l : List AV} (hk : own k = some o) (hl : Lies wd o.cs off l) (hn : n = l.length) (hc : n ≤ c) (hm : n ≤ 9223372036854775807) :
    Weak1 own (.raw (.slice (some ⟨k, off, none⟩) n c)) (own.del k) (.lst wd l) := by
  subst hn
  intro w F v hf ho hr
  simp only [Rep] at hr
  rw [hr.1]
  exact ⟨_, WS.freeze hf ho hk, Rep.frz (ho k o hk) hl hc hm⟩
theorem Weak1.emp {own : Own} {wd : Nat} : Weak1 own .emp own (.lst wd []) := fun w F v hf ho hr => by
  simp only [Rep] at hr
  obtain ⟨A, rfl⟩ := hr
  exact ⟨F, (Ext.refl hf).ws ho, by simp only [Rep]; exact ⟨A, 0, rfl, Nat.le_refl _, by simp, fun h => absurd rfl h⟩⟩
theorem Weak1.nil {own : Own} {wd : Nat} : Weak1 own (.raw (.slice none 0 0)) own (.lst wd []) := fun w F v hf ho hr => by
  simp only [Rep] at hr
  rw [hr.1]
  exact ⟨F, (Ext.refl hf).ws ho, by simp only [Rep]; exact ⟨none, 0, rfl, Nat.le_refl _, by simp, fun h => absurd rfl h⟩⟩
theorem Weak1.nil_emp {own : Own} : Weak1 own (.raw (.slice none 0 0)) own .emp := fun w F v hf ho hr => by
  simp only [Rep] at hr
  rw [hr.1]
  exact ⟨F, (Ext.refl hf).ws ho, by simp only [Rep]; exact ⟨none, rfl⟩⟩
theorem Weak1.drop {own own' : Own} {d : AV} (h : ∀ k o, own' k = some o → own k = some o) : Weak1 own d own' d := fun w F v hf ho hr =>
  ⟨F, ((Ext.refl hf).ws ho).drop h, hr⟩
theorem Weak.one {own own' : Own} {d d' : AV} {pre post : List AV} (h : Weak1 own d own' d') : Weak own (pre ++ d :: post) own' (pre ++ d' :: post) := by
  intro w F vs hf ho hr
  obtain ⟨a, b, rfl, ha, hb⟩ := hr.split
  simp only [Reps] at hb
  obtain ⟨x, xs, rfl, hx, hxs⟩ := hb
  obtain ⟨F', h1, h2⟩ := h w F x hf ho hx
  refine ⟨F', h1, (Reps.mono h1.kept _ _ ha).append ?_⟩
  simp only [Reps]
  exact ⟨x, xs, rfl, h2, Reps.mono h1.kept _ _ hxs⟩
/-- Arguments that are nil where a list is wanted. -/
theorem ACs.arg {P : Program} {f : Nat} {pre post : List AV} {d d' : AV} {own own' : Own} {K : AV → Own → Prop} {hK : HoldK K} (h : Weak1 own d own' d') (hk : ACs P f (pre ++ d' :: post) own' K) : ACs P f (pre ++ d :: post) own K hK :=
  ACs.weak (Weak.one h) hk

/-- A result seen in a weaker way. -/
theorem AC.post {P : Program} {f : Nat} {args : List AV} {own : Own} {K K' : AV → Own → Prop} (h : AC P f args own K) (hk : ∀ d own', K d own' → ∃ d' own'', Weak1 own' d own'' d' ∧ K' d' own'') : AC P f args own K' :=
  fun w F vs hf ho hr => (h w F vs hf ho hr).mono fun v w' ⟨F', d, own', a, b, c⟩ => by
    obtain ⟨d', own'', hw, hk'⟩ := hk d own' c
    obtain ⟨F2, h1, h2⟩ := hw w' F' v a.wf a.owns b
    exact ⟨F2, d', own'', a.trans h1, h2, hk'⟩
/-- A call that writes nothing of the caller's, its result seen in a weaker way. -/
theorem PC.post {P : Program} {f : Nat} {args : List AV} {d : AV} (h : AC P f args noOwn fun d' own' => ∃ own'', Weak1 own' d' own'' d) : PC P f args d :=
  PC.of_ac (h.post fun d' own' ⟨own'', hw⟩ => ⟨d, own'', hw, rfl⟩)

/-- A slot's slice of one's own, given up and seen as a list; a slot that is nil or empty, seen as a list. -/
theorem Ghost.slot {s : St} {t : Nat} {d' : AV} {own' : Own} (h : Weak1 s.own (s.tm t) own' d') : Ghost s ⟨s.n, upd s.tm t d', own'⟩ := by
  intro B w F a hr
  obtain ⟨F', h1, h2⟩ := h w F _ hr.ws.wf hr.ws.owns (hr.tm t)
  refine ⟨F', hr.ws.trans h1, hr.size, hr.defers, fun j => ?_⟩
  simp only [upd]
  split
  · rename_i e; subst e; exact h2
  · exact Rep.mono h1.kept _ _ (hr.tm j)

/-- Own-or-empty: what a call hands back that makes a row. -/
def RowK (T wd n : Nat) (cs : List AV) (own : Own) (K : AV → Own → Prop) : Prop :=
  (n = 0 → K .emp own) ∧ ∀ k c, own k = none → n ≤ c → K (.raw (.slice (some ⟨k, 0, none⟩) n c)) (own.set k ⟨T, cs, 0, c * wd⟩)
theorem Own.set_none {own : Own} {k k' : Nat} {o : OB} (hk : own k = none) (h : k' = k ∨ own.set k o k' = none) : own k' = none := by
  rcases h with rfl | h
  · exact hk
  · simp only [Own.set] at h
    split at h
    · cases h
    · exact h
end Go.Proofs.Ytenfgknhongaaaa.Hl
