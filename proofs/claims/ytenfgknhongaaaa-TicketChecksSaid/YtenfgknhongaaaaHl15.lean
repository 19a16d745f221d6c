/- Calls that write nothing that was there and whose result is one of several. No condition. -/
import Derived.Test.YtenfgknhongaaaaHl14
set_option linter.unusedVariables false
set_option linter.unusedSimpArgs false
namespace Go.Proofs.Ytenfgknhongaaaa.Hl
open Go
/-- A call that writes nothing of the caller's; its result has a property. -/
def PN (P : Program) (f : Nat) (args : List AV) (S : AV → Prop) : Prop :=
  ∀ w F vs, WF w F → Reps w F args vs → CallRes P f vs.toArray w fun v w' => ∃ F' d, Ext w F w' F' ∧ Rep w' F' d v ∧ S d
theorem PN.of_ac {P : Program} {f : Nat} {args : List AV} {S : AV → Prop} (h : AC P f args noOwn fun d own' => S d) : PN P f args S :=
  fun w F vs hf hr => (h w F vs hf (fun _ _ h => by cases h) hr).mono fun v w' ⟨F', d', own', a, b, c⟩ => ⟨F', d', Ext.of_ws a, b, c⟩
theorem PN.post {P : Program} {f : Nat} {args : List AV} {S : AV → Prop} (h : AC P f args noOwn fun d own' => ∃ d' own'', Weak1 own' d own'' d' ∧ S d') : PN P f args S :=
  PN.of_ac (h.post fun d own' ⟨d', own'', hw, hs⟩ => ⟨d', own'', hw, hs⟩)
theorem PN.of_pc {P : Program} {f : Nat} {args : List AV} {S : AV → Prop} {d : AV} (h : PC P f args d) (hs : S d) : PN P f args S :=
  fun w F vs hf hr => (h w F vs hf hr).mono fun v w' ⟨F', a, b⟩ => ⟨F', d, a, b, hs⟩
theorem PN.ac {P : Program} {f : Nat} {args : List AV} {S : AV → Prop} (h : PN P f args S) {own : Own} {K : AV → Own → Prop} (hk : ∀ d, S d → K d own) : AC P f args own K :=
  fun w F vs hf ho hr => (h w F vs hf hr).mono fun v w' ⟨F', d, a, b, c⟩ => ⟨F', d, own, a.ws ho, b, hk d c⟩
theorem ACs.pn {P : Program} {f : Nat} {args : List AV} {S : AV → Prop} {own : Own} {K : AV → Own → Prop} {hK : HoldK K} (h : PN P f args S) (hk : ∀ d, S d → K d own) : ACs P f args own K hK := h.ac hk
/-- A tuple seen in a weaker way. -/
theorem Weak1.tup {own own' : Own} {ds ds' : List AV} (h : Weak own ds own' ds') : Weak1 own (.tup ds) own' (.tup ds') := fun w F v hf ho hr => by
  simp only [Rep] at hr ⊢
  obtain ⟨xs, rfl, hx⟩ := hr
  obtain ⟨F', h1, h2⟩ := h w F xs hf ho hx
  exact ⟨F', h1, xs, rfl, h2⟩
/-- (nil, e) is ([], e). -/
theorem Weak1.nil2 {own : Own} {wd : Nat} {e : AV} : Weak1 own (.tup [.raw (.slice none 0 0), e]) own (.tup [.lst wd [], e]) :=
  Weak1.tup (Weak.one (pre := []) Weak1.nil)
theorem Own.del_ne (own : Own) {k j : Nat} (h : j ≠ k) : own.del k j = own j := if_neg h
/-- A box of one's own, given up and seen as a pointer to what nobody writes. -/
theorem Weak1.box {own : Own} {k : Nat} {o : OB} {d : AV} (hk : own k = some o) (hd : elemOk o.cs.length d) (hc : cellsA d = o.cs) :
    Weak1 own (.raw (.pointer (some ⟨k, 0, none⟩))) (own.del k) (.ref d) := by
  intro w F v hf ho hr
  simp only [Rep] at hr
  rw [hr.1]
  refine ⟨_, WS.freeze hf ho hk, ?_⟩
  have h := ho k o hk
  obtain ⟨xs, g1, g2, g3⟩ := Holds.frz (off := 0) (n := o.cs.length) h (by omega)
  rw [List.drop_zero, List.take_of_length_le (Nat.le_refl _)] at g1
  have g1' : Reps w (FrzTo F k o.cs.length) ([d].flatMap cellsA) xs := by simp only [List.flatMap_cons, List.flatMap_nil, List.append_nil, hc]; exact g1
  have hL := RepL.of_cells (l := [d]) (wd := o.cs.length) (off := 0) (by simpa using hd) g1' g2 g3
  simp only [RepL] at hL
  obtain ⟨⟨x, h1, _, h3⟩, _⟩ := hL
  simp only [Rep]
  exact ⟨k, 0, x, rfl, h1, h3⟩
/-- What is there is there later, too. -/
def Sub (own own1 : Own) : Prop := ∀ j o, own j = some o → own1 j = some o
theorem Sub.refl (own : Own) : Sub own own := fun _ _ h => h
theorem Sub.set {a b : Own} {k : Nat} {o : OB} (h : Sub a b) : Sub (a.set k o) (b.set k o) := fun j q hj => by
  simp only [Own.set] at hj ⊢
  split
  · rename_i e; rw [if_pos e] at hj; exact hj
  · rename_i e; rw [if_neg e] at hj; exact h j q hj
theorem Sub.fresh {a b : Own} {k : Nat} {o : OB} (hk : a k = none) (h : Sub a b) : Sub a (b.set k o) := fun j q hj => by
  simp only [Own.set]
  split
  · rename_i e; rw [e, hk] at hj; cases hj
  · exact h j q hj
theorem Sub.del {a b : Own} {k : Nat} (hk : a k = none) (h : Sub a b) : Sub a (b.del k) := fun j q hj => by
  simp only [Own.del]
  split
  · rename_i e; rw [e, hk] at hj; cases hj
  · exact h j q hj
/-- A contract whose other objects are forgotten. -/
theorem AC.sub {P : Program} {f : Nat} {args : List AV} {own own' : Own} {K : AV → Own → Prop} {d0 : AV} (h : AC P f args own fun d own1 => d = d0 ∧ Sub own' own1) (hk : K d0 own') : AC P f args own K :=
  AC.post h fun d own1 ⟨e, hs⟩ => ⟨d0, own', e ▸ Weak1.drop hs, hk⟩
theorem some_ne {own : Own} {k j : Nat} {o : OB} (h : own k = some o) (h' : own j = none) : j ≠ k := by
  intro e; rw [e, h] at h'; cases h'
/-- A call whose answer is known, as a value. -/
theorem VSem.call {P : Program} {dst : Option Nat} {fo : Operand} {args : Array Operand} {ts : Array Nat} {ty : Nat} {pos : String} {after : Array Edge} {g : Option (Nat × Bool)} {ρ : Operand → AV} {own : Own} {f : Nat} {d : AV} {as : List AV}
    (hf' : ρ fo = .clo (.func f) [] []) (ha : args.toList.map ρ = as) (h : PC P f as d) : VSem P ⟨dst, .call ⟨.value fo, args, ts⟩, ty, pos, after, g⟩ ρ own d := by
  intro w F ev hf ho hr
  have h1 := hr fo (by simp [Op.operands, Call.operands])
  rw [hf'] at h1
  simp only [Rep, Reps] at h1
  obtain ⟨xs, ys, e, rfl, rfl⟩ := h1
  have hargs : Reps w F (args.toList.map ρ) (args.toList.map ev) := Reps.map_ev fun x hx => hr x (by simp only [Op.operands, Call.operands]; simp at hx ⊢; exact .inr hx)
  rw [ha] at hargs
  have := h w F _ hf hargs
  unfold OpRes
  have hrun : (execOp ev ⟨dst, .call ⟨.value fo, args, ts⟩, ty, pos, after, g⟩).run P w = (callFunc f (args.toList.map ev).toArray).run P w := by
    simp only [execOp, resolve, e, Deferred.ofValue, Sem.run_bind, Sem.run_pure, Result.andThen_ok, invoke]
    congr 2
    apply Array.ext'
    simp
  rw [hrun]
  unfold CallRes at this
  split at this
  · rename_i v w' e; rw [e]; exact this
  · rename_i g as w' e; rw [e]; exact this
  · exact this.elim
/-- A row of one's own, seen as a list and still one's own. -/
theorem Weak1.share {own : Own} {k n c off wd : Nat} {o : OB} {l : List AV} (hk : own k = some o) (hl : Lies wd o.cs off l) (hn : n = l.length) (hc : n ≤ c) (hm : n ≤ 9223372036854775807) :
    Weak1 own (.raw (.slice (some ⟨k, off, none⟩) n c)) (own.set k { o with fz := o.cs.length }) (.lst wd l) := by
  subst hn
  intro w F v hf ho hr
  simp only [Rep] at hr
  rw [hr.1]
  exact ⟨_, WS.share hf ho hk, Rep.frz (ho k o hk) hl hc hm⟩
theorem none_ne {own : Own} {k j : Nat} {o : OB} (h : own.set k o j = none) : j ≠ k := by
  intro e
  subst e
  rw [Own.set_same] at h
  cases h
end Go.Proofs.Ytenfgknhongaaaa.Hl
