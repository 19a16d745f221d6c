/- From a contract to a given statement: the law that returns true and changes nothing. -/
import Derived.Test.YtenfgknhongaaaaHl12
set_option linter.unusedVariables false
set_option linter.unusedSimpArgs false
namespace Go.Proofs.Ytenfgknhongaaaa.Hl
open Go Go.RowKit Go.ChangeShapes

def aggT (P : Program) (t : Nat) : Bool := match P.underlying t with
  | some (.struct _) => true
  | some (.array _ _) => true
  | _ => false
theorem cell_one {P : Program} {w : World} {r : Reach} {b t : Nat} {v : Value} (h : Cell.okWide P w r b t v) : v.oneCell' = true := by
  cases v <;> first | rfl | (exfalso; unfold Cell.okWide at h; split at h <;> first | (rename_i e; cases e; done) | (rename_i e _; cases e; done) | (unfold Cell.ok at h; split at h <;> simp_all))
theorem okWide_shape {P : Program} {w : World} {r : Reach} {b t : Nat} {v : Value} (h : Value.okWide P w r b t v) : (aggT P t = true → ∃ cs, v = .agg cs) ∧ (aggT P t = false → v.oneCell' = true) := by
  unfold Value.okWide at h
  unfold aggT
  split at h
  · rename_i fs e; rw [e]; exact ⟨fun _ => h.imp fun _ k => k.1, fun h => by cases h⟩
  · rename_i n e' e; rw [e]; exact ⟨fun _ => h.imp fun _ k => k.1, fun h => by cases h⟩
  · rename_i h1 h2
    refine ⟨fun hx => ?_, fun _ => cell_one h⟩
    split at hx
    · rename_i e; exact absurd e (h1 _)
    · rename_i e; exact absurd e (h2 _ _)
    · cases hx

/-- The arguments: type, whether a row of cells, what is known. -/
def SA : List (Nat × Bool × (List AV → Prop)) → List AV → Prop
  | [], as => as = []
  | (_, true, S) :: r, as => ∃ ds as', as = .st ds :: as' ∧ S ds ∧ SA r as'
  | (_, false, S) :: r, as => ∃ a as', as = a :: as' ∧ S [a] ∧ SA r as'
def OpA (P : Program) : List (Nat × Bool × (List AV → Prop)) → Prop
  | [] => True
  | (T, agg, S) :: r => Opn P T S ∧ aggT P T = agg ∧ P.readableRec T = true ∧ T < P.types.size ∧ OpA P r
theorem trodAll_reps {H : Type} {enc : TypeId × Value → H} {P : Program} {W : World} {rc : Reach} {b0 : Nat} : ∀ {al : List (Nat × Bool × (List AV → Prop))} {vs : List Value} {ds : List (DataW H)} {p : List MemPlace},
    DataW.TrodAll enc P W 0 (fun _ => true) true (al.map (·.1)) vs ds p → (∀ (j t : Nat) (v : Value), (al.map (·.1))[j]? = some t → vs[j]? = some v → Value.okWide P W rc b0 t v) → OpA P al →
    (∃ as, Reps W (allF W) as vs ∧ SA al as) ∧ ds.length = al.length
  | [], vs, ds, p, h, _, _ => by
    obtain ⟨rfl, rfl, rfl⟩ := trodAll_nil h
    exact ⟨⟨[], by simp [Reps], rfl⟩, rfl⟩
  | (T, agg, S) :: r, vs, ds, p, h, hv, ho => by
    obtain ⟨v, vs, d, ds, p1, q1, rfl, rfl, rfl, h1, h2⟩ := trodAll_cons h
    obtain ⟨o1, o2, _, _, o5⟩ := ho
    obtain ⟨⟨as, r1, r2⟩, r3⟩ := trodAll_reps h2 (fun j t v hj hjv => hv (j + 1) t v (by simpa using hj) (by simpa using hjv)) o5
    have hk := okWide_shape (hv 0 T v (by simp) (by simp))
    refine ⟨?_, by simp [r3]⟩
    cases agg with
    | true =>
      obtain ⟨cs, rfl⟩ := hk.1 o2
      obtain ⟨ds', s1, s2⟩ := o1.agg h1
      exact ⟨.st ds' :: as, by simp only [Reps]; exact ⟨_, _, rfl, s1, r1⟩, ds', as, rfl, s2, r2⟩
    | false =>
      obtain ⟨a, s1, s2⟩ := o1.one (hk.2 o2) h1
      exact ⟨a :: as, by simp only [Reps]; exact ⟨_, _, rfl, s1, r1⟩, a, as, rfl, s2, r2⟩
theorem trodAll_below {H : Type} {enc : TypeId × Value → H} {P : Program} {W W' : World} (hl : laidOutB P = true) (hb : Below W.heap.size W W') : ∀ {al : List (Nat × Bool × (List AV → Prop))} {vs : List Value} {ds : List (DataW H)} {p : List MemPlace},
    DataW.TrodAll enc P W 0 (fun _ => true) true (al.map (·.1)) vs ds p → OpA P al → DataW.TrodAll enc P W' 0 (fun b => decide (b < W.heap.size)) true (al.map (·.1)) vs ds p
  | [], vs, ds, p, h, _ => by
    obtain ⟨rfl, rfl, rfl⟩ := trodAll_nil h
    exact trodAll_mk0
  | (T, agg, S) :: r, vs, ds, p, h, ho => by
    obtain ⟨v, vs, d, ds, p1, q1, rfl, rfl, rfl, h1, h2⟩ := trodAll_cons h
    obtain ⟨o1, o2, o3, o4, o5⟩ := ho
    have lt : ∀ x ∈ p1, x.block < W.heap.size := by obtain ⟨m, hm⟩ := h1; exact DataW.trod_lt m _ _ _ hm
    exact trodAll_cons_mk (Below.trod hl o3 o4 h1 hb lt) (trodAll_below hl hb h2 o5)

theorem callRes_calls {P : Program} {f : Nat} {fn : Func} {c : Code} {vs : Array Value} {w : World} {R : Value → World → Prop} (hf : P.funcs[f]? = some fn) (hb : fn.body = some c) (hn : (fn.name == "runtime.NumGoroutine") = false) (h : CallRes P f vs w R) :
    Calls P f vs w fun e w' => ∃ v, e = .returned v ∧ R v w' := by
  have hrun : (callFunc f vs).run P w = .ok (.enter f vs) w := by
    simp only [callFunc, Sem.run_bind, run_program, Result.andThen_ok, hf]
    rw [if_neg (by rw [hn]; simp)]
    rw [if_neg (by rw [hb]; simp)]
    rfl
  unfold CallRes at h
  rw [hrun] at h
  exact h

/-- What the statement asks of the call, from a contract: it returns true, and what came in reads as before. -/
theorem law_calls {P : Program} {f : Nat} {fn : Func} {s : ChangeSpec} {apart fresh handsOn : Bool} {tb : Nat} (al : List (Nat × Bool × (List AV → Prop))) {H : Type} {enc : TypeId × Value → H}
    (hf : P.funcs[f]? = some fn) (hb : fn.body.isSome = true) (hn : (fn.name == "runtime.NumGoroutine") = false) (hp : fn.params.toList = al.map (·.1)) (hres : fn.resultTypes = #[tb]) (htb : P.underlying tb = some .bool)
    (hvars : s.vars = []) (hs : ∀ ds : List (DataW H), ds.length = al.length → s.fn H ds = { results := [.lit (.bool true)], args := ds }) (hl : laidOutB P = true) (ho : OpA P al) (hc : ∀ as, SA al as → PC P f as (.raw (.bool true)))
    (W : World) (base : Nat) (args : Array Value) (ds gs : List (DataW H)) (before : List MemPlace)
    (hval : ∀ (j : Nat) t v, fn.params[j]? = some t → args[j]? = some v → Value.okWide P W .any base t v) (hW : DataW.Whole enc P fn.params.toList s.vars apart W args.toList ds gs before) :
    Calls P f args W fun e W' => ∃ v, e = .returned v ∧ s.post enc P fn apart fresh handsOn false W args v W' := by
  obtain ⟨c, hb⟩ := Option.isSome_iff_exists.1 hb
  have hW' := hW
  obtain ⟨p, q, hA, hV, rfl, hfz, hnd⟩ := hW
  rw [hp] at hA
  rw [hvars] at hV
  obtain ⟨rfl, rfl⟩ := trodVars_none hV
  obtain ⟨⟨as, r1, r2⟩, r3⟩ := trodAll_reps hA (fun j t v hj hjv => hval j t v (by rw [← hp] at hj; simpa using hj) (by simpa using hjv)) ho
  refine (callRes_calls hf hb hn (hc as r2 W (allF W) args.toList (allF_wf W) r1)).mono fun e W' ⟨v, he, F', hx, hrep⟩ => ?_
  simp only [Rep] at hrep
  obtain rfl := hrep.1
  have bel := below_of_ext hx
  refine ⟨_, he, ds, [], _, [], p, [], hW', ?_, ?_, ?_, bel.frame _, fun h => by cases h⟩
  · rw [List.append_nil, hs ds r3, hres]
    exact trodAll_mk1 (shut_bool htb _)
  · rw [List.append_nil, hs ds r3, hp]
    exact trodAll_below hl bel hA ho
  · rw [List.append_nil, hs ds r3, hvars]
    exact rfl
end Go.Proofs.Ytenfgknhongaaaa.Hl
