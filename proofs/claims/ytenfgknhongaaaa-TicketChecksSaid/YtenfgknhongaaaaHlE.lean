/- '==' and '!=' at flat structs. No condition. -/
import Derived.Test.YtenfgknhongaaaaHl7
import Derived.Laws.StructEq
set_option linter.unusedVariables false
set_option linter.unusedSimpArgs false

namespace Go.Proofs.Ytenfgknhongaaaa.Hl
open Go

def eqOk (P : Program) (t : Nat) : Bool := !P.stoodInHeld t && !P.eqGuardType P.depth t
def eqOne : TK → AV → AV → Option (Prop × Bool)
  | .int _, .raw (.int k a), .raw (.int k' b) => some (k = k', decide (a = b))
  | .bool, .raw (.bool a), .raw (.bool b) => some (True, a == b)
  | .str, .raw (.string a), .raw (.string b) => some (True, a.toList == b.toList)
  | _, _, _ => none
def eqFs (rec : Nat → List AV → List AV → Option (Prop × Bool)) (P : Program) : List (Nat × Nat × Bool) → List AV → List AV → Option (Prop × Bool)
  | [], _, _ => some (True, true)
  | (_, _, false) :: r, xs, ys => eqFs rec P r xs ys
  | (off, t, true) :: r, xs, ys => match ti P t with
    | some i => match rec t ((xs.drop off).take i.size) ((ys.drop off).take i.size), eqFs rec P r xs ys with
      | some (c, a), some (c', b) => some (c ∧ c', a && b)
      | _, _ => none
    | none => none
def eqSt (P : Program) : Nat → Nat → List AV → List AV → Option (Prop × Bool)
  | 0, _, _, _ => none
  | n + 1, t, xs, ys => match ti P t with
    | some ⟨.st fs, _, _, _⟩ => match eqFs (eqSt P n) P fs xs ys with
      | some (c, b) => some (eqOk P t = true ∧ c, b)
      | none => none
    | some ⟨k, _, _, _⟩ => match xs, ys with
      | [x], [y] => eqOne k x y
      | _, _ => none
    | none => none

def pkV (agg : Bool) (us : List Value) : Value := if agg then .agg us.toArray else us.headD undef
theorem run_part {P : Program} {w : World} {t off : Nat} {i : TI} {xs : List Value} (hi : ti P t = some i) (h : i.k.agg = false → off < xs.length ∧ i.size ≠ 0) :
    (part t xs.toArray off).run P w = .ok (pkV i.k.agg ((xs.drop off).take i.size)) w := by
  obtain ⟨info, td, z, e1, e2, e3, e4, e5, e6, e7⟩ := ti_spec hi
  simp only [part, Sem.run_bind, run_isAgg e2, ← e3, Result.andThen_ok]
  cases ha : i.k.agg with
  | true =>
    simp only [if_true, Sem.run_bind, run_sizeOf e1, Result.andThen_ok, Sem.run_pure, e4, List.extract_toArray, pkV]
    congr 3
    rw [List.extract_eq_take_drop]; congr 1; omega
  | false =>
    obtain ⟨hlt, hs⟩ := h ha
    obtain ⟨m, hm⟩ : ∃ m, i.size = m + 1 := ⟨i.size - 1, by omega⟩
    have e : (xs.drop off).take i.size = xs[off] :: (xs.drop (off + 1)).take m := by rw [List.drop_eq_getElem_cons hlt, hm, List.take_succ_cons]
    rw [e]
    simp only [pkV, Bool.false_eq_true, if_false, List.headD, List.getElem?_toArray, List.getElem?_eq_getElem hlt, Sem.run_pure]

theorem eqOne_sound {P : Program} {w : World} {F : Frz} {t d : Nat} {i : TI} {x y : AV} {c : Prop} {b : Bool} {u v : Value} (hi : ti P t = some i) (h : eqOne i.k x y = some (c, b)) (hc : c) (hu : Rep w F x u) (hv : Rep w F y v) :
    (Op.equalIn (d + 1) t u v).run P w = .ok b w := by
  obtain ⟨info, td, z, e1, e2, e3, e4, e5, e6, e7⟩ := ti_spec hi
  rw [e3] at h
  unfold eqOne at h
  split at h
  · rename_i k0 k a k' b' hk
    injection h with h; injection h with h1 h2; subst h1; subst h2; subst hc
    have := TK.of_int hk
    subst this
    simp only [Rep] at hu hv
    rw [hu.1, hv.1, run_equalIn_int w d t k _ a b' e2]
    congr 1
  · rename_i a b' hk
    injection h with h; injection h with h1 h2; subst h1; subst h2
    have := TK.of_bool hk
    subst this
    simp only [Rep] at hu hv
    rw [hu.1, hv.1, run_equalIn_bool' w d t a b' e2]
  · rename_i a b' hk
    injection h with h; injection h with h1 h2; subst h1; subst h2
    have := TK.of_str hk
    subst this
    simp only [Rep] at hu hv
    rw [hu.1, hv.1, run_equalIn_string w d t a b' e2]
  · cases h

theorem eqSt_sound {P : Program} {w : World} {F : Frz} : ∀ (n t : Nat) (xs ys : List AV) (c : Prop) (b : Bool) (d : Nat) (us vs : List Value) (i : TI), eqSt P n t xs ys = some (c, b) → c → n ≤ d → ti P t = some i → Reps w F xs us → Reps w F ys vs →
    (Op.equalIn d t (pkV i.k.agg us) (pkV i.k.agg vs)).run P w = .ok b w
  | 0, t, xs, ys, c, b, d, us, vs, i, h, hc, hd, hi, hu, hv => by simp [eqSt] at h
  | n + 1, t, xs, ys, c, b, d, us, vs, i, h, hc, hd, hi, hu, hv => by
    obtain ⟨d', rfl⟩ : ∃ d', d = d' + 1 := ⟨d - 1, by omega⟩
    have IH := eqSt_sound (P := P) (w := w) (F := F) n
    unfold eqSt at h
    rw [hi] at h
    split at h
    · rename_i fs sz by_ zs he
      injection he with he
      subst he
      split at h
      · rename_i c' b' hf
        injection h with h; injection h with h1 h2; subst h1; subst h2
        obtain ⟨info, td, z, e1, e2, e3, e4, e5, e6, e7⟩ := ti_spec hi
        obtain ⟨hok, hc⟩ := hc
        have hst : P.stoodInHeld t = false := by
          unfold eqOk at hok
          cases hs : P.stoodInHeld t
          · rfl
          · rw [hs] at hok; cases hok
        simp only at e3
        cases td <;> simp only [TK.of] at e3 <;> first | cases e3 | skip
        rename_i fl
        have hfl : P.fieldsOf t = fl := by simp [Program.fieldsOf, e2]
        simp only [TK.agg, pkV, if_true]
        rw [run_equalIn_struct w d' t _ _ (by rw [hfl]; exact e2) hst, hfl]
        clear e2 hfl hi hok hst e4 e5 e6 e7 e1
        generalize fl.toList = l at *
        induction l generalizing c' b' with
        | nil =>
          simp only [List.map_nil, eqFs] at hf
          injection hf with hf; injection hf with h1 h2; subst h2
          simp [Op.eqFields]
        | cons f l ih =>
          simp only [List.map_cons] at hf
          by_cases hn : f.name = "_"
          · have : (f.name != "_") = false := by simp [hn]
            rw [this] at hf
            simp only [eqFs] at hf
            simp only [Op.eqFields, hn, ne_eq, not_true_eq_false, if_false]
            exact ih c' b' hc hf
          · have : (f.name != "_") = true := by simp [hn]
            rw [this] at hf
            simp only [eqFs] at hf
            split at hf
            · rename_i j hj
              split at hf
              · rename_i c1 a1 c2 a2 ha1 ha2
                injection hf with hf; injection hf with h1 h2; subst h1; subst h2
                obtain ⟨hc1, hc2⟩ := hc
                have key : j.k.agg = false → f.offset < us.length ∧ f.offset < vs.length ∧ j.size ≠ 0 := by
                  intro hag
                  cases n with
                  | zero => simp [eqSt] at ha1
                  | succ n =>
                    unfold eqSt at ha1
                    rw [hj] at ha1
                    split at ha1
                    · rename_i fs2 _ _ _ he2
                      injection he2 with he2
                      rw [he2] at hag
                      cases hag
                    · rename_i he2
                      split at ha1
                      · rename_i x y hx hy
                        have lx := congrArg List.length hx
                        have ly := congrArg List.length hy
                        simp only [List.length_take, List.length_drop, List.length_singleton] at lx ly
                        have := hu.length
                        have := hv.length
                        refine ⟨by omega, by omega, by omega⟩
                      · cases ha1
                    · cases ha1
                have p1 := run_part (w := w) (xs := us) (off := f.offset) hj fun h => ⟨(key h).1, (key h).2.2⟩
                have p2 := run_part (w := w) (xs := vs) (off := f.offset) hj fun h => ⟨(key h).2.1, (key h).2.2⟩
                have q := IH f.type _ _ c1 a1 d' _ _ j ha1 hc1 (by omega) hj ((hu.drop f.offset).take j.size) ((hv.drop f.offset).take j.size)
                simp only [Op.eqFields, hn, ne_eq, not_false_eq_true, if_true, Sem.run_bind, p1, p2, q, Result.andThen_ok]
                cases a1
                · simp
                · simp only [Bool.not_true, Bool.false_eq_true, if_false, Bool.true_and]
                  exact ih c2 a2 hc2 ha2
              · cases hf
            · cases hf
      · cases h
    · rename_i k sz by_ zs hk he
      injection he with he
      subst he
      split at h
      · rename_i x y
        simp only [Reps] at hu hv
        obtain ⟨u, _, rfl, hu, rfl⟩ := hu
        obtain ⟨v, _, rfl, hv, rfl⟩ := hv
        have hag : k.agg = false := by
          unfold eqOne at h
          split at h <;> first | rfl | cases h
        simp only [pkV, hag, Bool.false_eq_true, if_false, List.headD]
        exact eqOne_sound hi h hc hu hv
      · cases h
    · rename_i he
      cases he

def eqStV (P : Program) (op : BinOp) (T : Nat) (xs ys : List AV) : Option (Prop × AV) := match ti P T with
  | some ⟨.st _, _, _, _⟩ => match op, eqSt P 6 T xs ys with
    | .eql, some (c, b) => some (eqOk P T = true ∧ c, .raw (.bool b))
    | .neq, some (c, b) => some (eqOk P T = true ∧ c, .raw (.bool (!b)))
    | _, _ => none
  | _ => none
theorem vs_eqst {P : Program} {o : Oper} {ρ : Operand → AV} {own : Own} {op : BinOp} {T T' : Nat} {x y : Operand} {xs ys : List AV} {c : Prop} {d : AV} (h : o.op = .binOp op T x y T') (hx : ρ x = .st xs) (hy : ρ y = .st ys)
    (hd : eqStV P op T xs ys = some (c, d)) (hc : c) : VSem P o ρ own d := by
  refine VSem.of_run fun w F ev _ _ hr => ?_
  have h1 := hr x (by simp [h, Op.operands])
  have h2 := hr y (by simp [h, Op.operands])
  rw [hx] at h1
  rw [hy] at h2
  simp only [Rep] at h1 h2
  obtain ⟨us, eu, hu, _⟩ := h1
  obtain ⟨vs, ev', hv, _⟩ := h2
  unfold eqStV at hd
  split at hd
  · rename_i fs sz by_ zs hi
    have main : ∀ c b, eqSt P 6 T xs ys = some (c, b) → c → eqOk P T = true → (eqGuard op T x y (ev x) (ev y)).run P w = .ok () w ∧ (Op.equalIn 10000 T (ev x) (ev y)).run P w = .ok b w := by
      intro c b hb hc hok
      have hg : P.eqGuardType P.depth T = false := by
        unfold eqOk at hok
        cases hs : P.eqGuardType P.depth T
        · rfl
        · rw [hs] at hok; simp at hok
      rw [eu, ev']
      exact ⟨run_eqGuard_agg w op T x y _ _ hg, eqSt_sound 6 T xs ys c b 10000 us vs _ hb hc (by decide) hi hu hv⟩
    split at hd
    · rename_i c' b hb
      injection hd with hd; injection hd with q1 q2; subst q1; subst q2
      obtain ⟨m1, m2⟩ := main _ _ hb hc.2 hc.1
      refine ⟨.bool b, ?_, by simp [Rep, Value.oneCell']⟩
      simp only [execOp, h]
      rw [Sem.run_bind, Sem.run_bind, m1, Result.andThen_ok, eu, ev', run_eql_struct]
      rw [eu, ev'] at m2
      rw [m2]
      rfl
    · rename_i c' b hb
      injection hd with hd; injection hd with q1 q2; subst q1; subst q2
      obtain ⟨m1, m2⟩ := main _ _ hb hc.2 hc.1
      refine ⟨.bool (!b), ?_, by simp [Rep, Value.oneCell']⟩
      simp only [execOp, h]
      rw [Sem.run_bind, Sem.run_bind, m1, Result.andThen_ok, eu, ev', run_neq_struct]
      rw [eu, ev'] at m2
      rw [m2]
      rfl
    · cases hd
  · cases hd
end Go.Proofs.Ytenfgknhongaaaa.Hl
