/- One function that says what an operation comes to, calls by contract, and states of a frame. No condition. -/
import Derived.Test.YtenfgknhongaaaaHlE
set_option linter.unusedVariables false
set_option linter.unusedSimpArgs false

namespace Go.Proofs.Ytenfgknhongaaaa.Hl
open Go

/-! ### Operations that write nothing: value and condition -/
def pvBin (P : Program) (b : BinOp) (T : Nat) (x y : AV) : Option (Prop × AV) :=
  match x, y with
  | .raw a, .raw c => match binV b a c with
    | some (p, v) => some (p, .raw v)
    | none => match ti P T with
      | some i => match binE b i.k x y with
        | some d => some (True, d)
        | none => none
      | none => none
  | .st xs, .st ys => eqStV P b T xs ys
  | _, _ => match ti P T with
    | some i => match binE b i.k x y with
      | some d => some (True, d)
      | none => none
    | none => none
def pvUn (op : UnOp) (x : AV) : Option (Prop × AV) :=
  match x with
  | .raw a => match unV op a with
    | some v => some (True, .raw v)
    | none => none
  | _ => none
def pvConv (P : Program) (s t : Nat) (x : AV) (own : Own) : Option (Prop × AV) :=
  match convA P s t x with
  | some r => some r
  | none => strA P s t x own
def pvLoad (P : Program) (T : Nat) (x : AV) (own : Own) : Option (Prop × AV) :=
  match ti P T with
  | some i => loadA i x own
  | none => none
def trueA (x : Option AV) : Option (Prop × AV) := match x with
  | some d => some (True, d)
  | none => none
def pvFaddr (P : Program) (S f : Nat) (x : AV) : Option (Prop × AV) := match fi P S f with
  | some q => faddrA q x
  | none => none
def pvField (P : Program) (S f : Nat) (x : AV) : Option (Prop × AV) := match fi P S f with
  | some q => fieldA q x
  | none => none
def pvIaddr (P : Program) (T : Nat) (x i : AV) : Option (Prop × AV) := match ti P T with
  | some t => match ti P (elemOfK t.k) with
    | some e => iaddrA t.k e.size x i
    | none => none
  | none => none
def pvIndex (P : Program) (T : Nat) (x i : AV) : Option (Prop × AV) := match ti P T with
  | some t => indexA t.k x i
  | none => none
def pvSlice (P : Program) (T : Nat) (x : AV) (lo hi mx : Option AV) : Option (Prop × AV) := match ti P T with
  | some t => match t.k with
    | .str => sliceA .str 0 x lo hi mx
    | k => match ti P (elemOfK k) with
      | some e => match mx, hi with
        | some _, none => none
        | _, _ => sliceA k e.size x lo hi mx
      | none => none
  | none => none
def pvLen (P : Program) (T : Nat) (x : AV) : Option (Prop × AV) := match ti P T with
  | some t => trueA (lenA t.k x)
  | none => none
def pvPick (c a b : AV) : Option (Prop × AV) := match c with
  | .raw (.bool t) => some (True, pickA t a b)
  | _ => none
def pvCall (P : Program) (b : Builtin) (args : List AV) (ts : List Nat) : Option (Prop × AV) := match b, args, ts with
  | .len, [x], [T] => pvLen P T x
  | .min, [x, y], _ => trueA (mmA false x y)
  | .max, [x, y], _ => trueA (mmA true x y)
  | _, _, _ => none

def pv (P : Program) (mu : Bool) (op : Op) (ρ : Operand → AV) (own : Own) : Option (Prop × AV) :=
  match op with
  | .move x => some (True, ρ x)
  | .assign x => some (True, ρ x)
  | .pick c a b => pvPick (ρ c) (ρ a) (ρ b)
  | .binOp b T x y _ => pvBin P b T (ρ x) (ρ y)
  | .unOp o _ x => pvUn o (ρ x)
  | .convert s t x => pvConv P s t (ρ x) own
  | .load T x => pvLoad P T (ρ x) own
  | .nilCheck x => trueA (nilA (ρ x))
  | .fieldAddr S x f => pvFaddr P S f (ρ x)
  | .field S x f => pvField P S f (ρ x)
  | .indexAddr T x i => pvIaddr P T (ρ x) (ρ i)
  | .index T x i => pvIndex P T (ρ x) (ρ i)
  | .slice T x lo hi mx => pvSlice P T (ρ x) (lo.map ρ) (hi.map ρ) (mx.map ρ)
  | .extract x i => trueA (extractA (ρ x) i)
  | .build S parts => buildV P S (parts.toList.map fun p => (p.1, ρ p.2))
  | .box T x => match mu with
    | true => none
    | false => some (True, .ref (ρ x))
  | .buildSlice T n parts => match mu with
    | true => none
    | false => bsA P T n (parts.toList.map fun p => (p.1, ρ p.2))
  | .makeFunc fn a b => some (True, .clo fn (a.toList.map ρ) (b.toList.map ρ))
  | .call ⟨.builtin b, args, ts⟩ => pvCall P b (args.toList.map ρ) ts.toList
  | _ => none

theorem pvBin_sound {P : Program} {o : Oper} {ρ : Operand → AV} {own : Own} {b : BinOp} {T T' : Nat} {x y : Operand} {c : Prop} {d : AV} (h : o.op = .binOp b T x y T') (hd : pvBin P b T (ρ x) (ρ y) = some (c, d)) (hc : c) : VSem P o ρ own d := by
  have aux : ∀ {i : TI}, ti P T = some i → (match binE b i.k (ρ x) (ρ y) with | some d => some (True, d) | none => none) = some (c, d) → VSem P o ρ own d := by
    intro i hi hq
    split at hq
    · rename_i d' hd'
      injection hq with hq; injection hq with _ hq; subst hq
      exact vs_binE h hi hd'
    · cases hq
  have aux2 : (match ti P T with | some i => (match binE b i.k (ρ x) (ρ y) with | some d => some (True, d) | none => none) | none => none) = some (c, d) → VSem P o ρ own d := by
    intro hq
    split at hq
    · rename_i i hi; exact aux hi hq
    · cases hq
  unfold pvBin at hd
  split at hd
  · rename_i a e ha he
    split at hd
    · rename_i p v hv
      injection hd with hd; injection hd with hd1 hd2; subst hd1; subst hd2
      exact vs_bin h ha he hv hc
    · exact aux2 hd
  · rename_i xs ys hx hy
    exact vs_eqst h hx hy hd hc
  · exact aux2 hd

theorem pv_sound {P : Program} {mu : Bool} {o : Oper} {ρ : Operand → AV} {own : Own} {c : Prop} {d : AV} (hd : pv P mu o.op ρ own = some (c, d)) (hc : c) : VSem P o ρ own d := by
  cases h : o.op <;> simp only [h, pv] at hd
  case move x => injection hd with hd; injection hd with _ hd; subst hd; exact vs_move h
  case assign x => injection hd with hd; injection hd with _ hd; subst hd; exact vs_assign h
  case pick x a b =>
    unfold pvPick at hd
    split at hd
    · rename_i t ht
      injection hd with hd; injection hd with _ hd; subst hd; exact vs_pick h ht
    · cases hd
  case binOp b T x y T' => exact pvBin_sound h hd hc
  case unOp op T x =>
    unfold pvUn at hd
    split at hd
    · rename_i a ha
      split at hd
      · rename_i v hv
        injection hd with hd; injection hd with _ hd; subst hd; exact vs_un h ha hv
      · cases hd
    · cases hd
  case convert s t x =>
    unfold pvConv at hd
    split at hd
    · rename_i r hr
      injection hd with hd
      subst hd
      exact vs_conv h hr hc
    · exact vs_str h hd hc
  case load T x =>
    unfold pvLoad at hd
    split at hd
    · rename_i i hi; exact vs_load h hi hd hc
    · cases hd
  case nilCheck x =>
    unfold trueA at hd
    split at hd
    · rename_i d' hd'
      injection hd with hd; injection hd with _ hd; subst hd; exact vs_nil h hd'
    · cases hd
  case fieldAddr S x f =>
    unfold pvFaddr at hd
    split at hd
    · rename_i q hq; exact vs_faddr h hq hd hc
    · cases hd
  case field S x f =>
    unfold pvField at hd
    split at hd
    · rename_i q hq; exact vs_field h hq hd hc
    · cases hd
  case indexAddr T x i =>
    unfold pvIaddr at hd
    split at hd
    · rename_i t ht
      split at hd
      · rename_i e he; exact vs_iaddr h ht he hd hc
      · cases hd
    · cases hd
  case index T x i =>
    unfold pvIndex at hd
    split at hd
    · rename_i t ht; exact vs_index h ht hd hc
    · cases hd
  case slice T x lo hi mx =>
    unfold pvSlice at hd
    split at hd
    · rename_i t ht
      split at hd
      · rename_i hk
        have hd' : sliceA t.k ((⟨.other, 0, 0, []⟩ : TI).size) (ρ x) (lo.map ρ) (hi.map ρ) (mx.map ρ) = some (c, d) := by rw [hk]; exact hd
        refine vs_slice (e := ⟨.other, 0, 0, []⟩) h ht (.inr hk) hd' hc fun hm => ?_
        cases mx with
        | none => cases hm
        | some m =>
          unfold sliceA at hd
          split at hd
          · split at hd
            · rename_i e; cases e
            · cases hd
          · rename_i e _; cases e
          · rename_i e _; cases e
          · cases hd
      · split at hd
        · rename_i e he
          split at hd
          · cases hd
          · rename_i hne
            refine vs_slice h ht (.inl he) hd hc fun hm => ?_
            cases mx with
            | none => cases hm
            | some m => cases hi with
              | none => exact absurd rfl (hne _ rfl)
              | some _ => rfl
        · cases hd
    · cases hd
  case extract x i =>
    unfold trueA at hd
    split at hd
    · rename_i d' hd'
      injection hd with hd; injection hd with _ hd; subst hd; exact vs_extract h hd'
    · cases hd
  case build S parts => exact vs_build h hd hc
  case box T x =>
    cases mu
    · injection hd with hd; injection hd with _ hd; subst hd; exact vs_box h
    · cases hd
  case buildSlice T n parts =>
    cases mu
    · exact vs_bslice h hd hc
    · cases hd
  case makeFunc fn a b => injection hd with hd; injection hd with _ hd; subst hd; exact vs_func h
  case call cl =>
    obtain ⟨callee, args, ts⟩ := cl
    cases callee with
    | builtin b =>
      simp only at hd
      have harr1 : ∀ {x : Operand}, args.toList = [x] → args = #[x] := fun h => by apply Array.ext'; simpa using h
      have harr2 : ∀ {x y : Operand}, args.toList = [x, y] → args = #[x, y] := fun h => by apply Array.ext'; simpa using h
      unfold pvCall at hd
      split at hd
      · rename_i x T hx hT
        obtain ⟨y, hy, rfl⟩ := List.map_eq_singleton_iff.1 hx
        have hT' : ts = #[T] := by apply Array.ext'; simpa using hT
        unfold pvLen at hd
        split at hd
        · rename_i t ht
          unfold trueA at hd
          split at hd
          · rename_i d' hd'
            injection hd with hd; injection hd with _ hd; subst hd
            exact vs_len (by rw [h, harr1 hy, hT']) ht hd'
          · cases hd
        · cases hd
      · rename_i x y hx
        obtain ⟨a, l, ha, rfl, hl⟩ := List.map_eq_cons_iff.1 hx
        obtain ⟨b', hb, rfl⟩ := List.map_eq_singleton_iff.1 hl
        subst hb
        unfold trueA at hd
        split at hd
        · rename_i d' hd'
          injection hd with hd; injection hd with _ hd; subst hd
          exact vs_min (by rw [h, harr2 ha]) hd'
        · cases hd
      · rename_i x y hx
        obtain ⟨a, l, ha, rfl, hl⟩ := List.map_eq_cons_iff.1 hx
        obtain ⟨b', hb, rfl⟩ := List.map_eq_singleton_iff.1 hl
        subst hb
        unfold trueA at hd
        split at hd
        · rename_i d' hd'
          injection hd with hd; injection hd with _ hd; subst hd
          exact vs_max (by rw [h, harr2 ha]) hd'
        · cases hd
      · cases hd
    | value f => cases hd
    | invoke r m => cases hd
  all_goals cases hd

/-! ### Calls by contract -/
def CallRes (P : Program) (f : Nat) (args : Array Value) (w : World) (R : Value → World → Prop) : Prop :=
  match (callFunc f args).run P w with
  | .ok (.value v) w' => R v w'
  | .ok (.enter f args) w' => Calls P f args w' fun e w'' => ∃ v, e = .returned v ∧ R v w''
  | _ => False
theorem CallRes.mono {P : Program} {f : Nat} {args : Array Value} {w : World} {R R' : Value → World → Prop} (h : CallRes P f args w R) (hr : ∀ v w', R v w' → R' v w') : CallRes P f args w R' := by
  unfold CallRes at *
  split at h <;> first | exact hr _ _ h | (exact h.mono fun e w'' he => by obtain ⟨v, e1, h1⟩ := he; exact ⟨v, e1, hr _ _ h1⟩) | exact h.elim

/-- What a call comes to. -/
def AC (P : Program) (f : Nat) (args : List AV) (own : Own) (K : AV → Own → Prop) : Prop :=
  ∀ w F vs, WF w F → Owns w F own → Reps w F args vs → CallRes P f vs.toArray w fun v w' => ∃ F' d own', WS ⟨w, F, own⟩ w' F' own' ∧ Rep w' F' d v ∧ K d own'
theorem AC.mono {P : Program} {f : Nat} {args : List AV} {own : Own} {K K' : AV → Own → Prop} (h : AC P f args own K) (hk : ∀ d own', K d own' → K' d own') : AC P f args own K' :=
  fun w F vs hf ho hr => (h w F vs hf ho hr).mono fun v w' ⟨F', d, own', a, b, c⟩ => ⟨F', d, own', a, b, hk _ _ c⟩
/-- A call that writes nothing of the caller's. -/
def PC (P : Program) (f : Nat) (args : List AV) (d : AV) : Prop :=
  ∀ w F vs, WF w F → Reps w F args vs → CallRes P f vs.toArray w fun v w' => ∃ F', Ext w F w' F' ∧ Rep w' F' d v
theorem PC.ac {P : Program} {f : Nat} {args : List AV} {d : AV} (h : PC P f args d) {own : Own} {K : AV → Own → Prop} (hk : K d own) : AC P f args own K :=
  fun w F vs hf ho hr => (h w F vs hf hr).mono fun v w' ⟨F', a, b⟩ => ⟨F', d, own, a.ws ho, b, hk⟩

/-- Values and objects seen in a weaker way (the world does not move; more may be frozen). -/
def Weak (own : Own) (args : List AV) (own' : Own) (args' : List AV) : Prop :=
  ∀ w F vs, WF w F → Owns w F own → Reps w F args vs → ∃ F', WS ⟨w, F, own⟩ w F' own' ∧ Reps w F' args' vs
theorem Weak.refl (own : Own) (args : List AV) : Weak own args own args :=
  fun w F vs hf ho hr => ⟨F, (Ext.refl hf).ws ho, hr⟩
theorem Weak.trans {own own1 own2 : Own} {a a1 a2 : List AV} (h : Weak own a own1 a1) (h' : Weak own1 a1 own2 a2) : Weak own a own2 a2 :=
  fun w F vs hf ho hr => by
    obtain ⟨F1, h1, r1⟩ := h w F vs hf ho hr
    obtain ⟨F2, h2, r2⟩ := h' w F1 vs h1.wf h1.owns r1
    exact ⟨F2, h1.trans h2, r2⟩
theorem AC.weak {P : Program} {f : Nat} {args args' : List AV} {own own' : Own} {K : AV → Own → Prop} (hw : Weak own args own' args') (h : AC P f args' own' K) : AC P f args own K :=
  fun w F vs hf ho hr => by
    obtain ⟨F1, h1, r1⟩ := hw w F vs hf ho hr
    exact (h w F1 vs h1.wf h1.owns r1).mono fun v w' ⟨F', d, o', a, b, c⟩ => ⟨F', d, o', h1.trans a, b, c⟩

/-- Holds a continuation back from the symbolic run. -/
abbrev HoldK (K : AV → Own → Prop) : Type := Unit
/-- A call, its arguments seen in a weaker way first. -/
def ACs (P : Program) (f : Nat) (args : List AV) (own : Own) (K : AV → Own → Prop) (_ : HoldK K := ()) : Prop := AC P f args own K
theorem ACs.pure {P : Program} {f : Nat} {args : List AV} {d : AV} {own : Own} {K : AV → Own → Prop} {hK : HoldK K} (h : PC P f args d) (hk : K d own) : ACs P f args own K hK := h.ac hk
theorem ACs.of {P : Program} {f : Nat} {args : List AV} {own : Own} {K : AV → Own → Prop} {hK : HoldK K} (h : AC P f args own K) : ACs P f args own K hK := h
theorem ACs.weak {P : Program} {f : Nat} {args args' : List AV} {own own' : Own} {K : AV → Own → Prop} {hK hK' : HoldK K} (hw : Weak own args own' args') (h : ACs P f args' own' K hK') : ACs P f args own K hK := AC.weak hw h

theorem es_call {P : Program} {o : Oper} {ρ : Operand → AV} {own : Own} {fo : Operand} {args : Array Operand} {ts : Array Nat} {f : Nat} {first cap : List AV} {K : AV → Own → Prop} (h : o.op = .call ⟨.value fo, args, ts⟩) (hf' : ρ fo = .clo (.func f) first cap)
    (hd : ACs P f (first ++ args.toList.map ρ ++ cap) own K) : ESem P o ρ own K := by
  intro w F ev hf ho hr
  have h1 := hr fo (by simp [h, Op.operands, Call.operands])
  rw [hf'] at h1
  simp only [Rep] at h1
  obtain ⟨xs, ys, e, hx, hy⟩ := h1
  have hargs : Reps w F (args.toList.map ρ) (args.toList.map ev) := Reps.map_ev fun x hx => hr x (by simp only [h, Op.operands, Call.operands]; simp at hx ⊢; exact .inr hx)
  have := hd w F _ hf ho ((hx.append hargs).append hy)
  unfold OpRes
  have hrun : (execOp ev o).run P w = (callFunc f (xs ++ args.toList.map ev ++ ys).toArray).run P w := by
    simp only [execOp, h, resolve, e, Deferred.ofValue, Sem.run_bind, Sem.run_pure, Result.andThen_ok, invoke]
    congr 2
    apply Array.ext'
    simp
  rw [hrun]
  unfold CallRes at this
  split at this
  · rename_i v w' e; rw [e]; exact this
  · rename_i g as w' e; rw [e]; exact this
  · exact this.elim

def callE (P : Program) (o : Oper) (ρ : Operand → AV) (f : AV) (args : List AV) (own : Own) (K : AV → Own → Prop) : Prop := match f with
  | .clo (.func f) first cap => ACs P f (first ++ args ++ cap) own K
  | _ => ESem P o ρ own K

/-- '==' at structs by a contract of its own, a slice against nil. -/
def binE' (P : Program) (o : Oper) (ρ : Operand → AV) (own : Own) (b : BinOp) (T : Nat) (x y : AV) (K : AV → Own → Prop) : Prop := match x with
  | .lst _ _ => eqNilE P b T x y fun d => K d own
  | .emp => eqNilE P b T x y fun d => K d own
  | _ => ESem P o ρ own K

/-! ### Any operation -/
def effE (P : Program) (o : Oper) (ρ : Operand → AV) (own : Own) (K : AV → Own → Prop) : Prop :=
  match o.op with
  | .alloc T => allocE P T own K
  | .box T x => boxE T (ρ x) own K
  | .buildSlice T n parts => bsE P T n (parts.toList.map fun p => (p.1, ρ p.2)) own K
  | .makeSlice T n c => makeE P T (ρ n) (ρ c) own K
  | .store T a x => storeE P T (ρ a) (ρ x) own K
  | .binOp b T x y _ => binE' P o ρ own b T (ρ x) (ρ y) K
  | .call ⟨.builtin .append, args, ts⟩ => match args.toList, ts.toList with
    | [s, x], [T, U] => appE P T U (ρ s) (ρ x) own K
    | _, _ => ESem P o ρ own K
  | .call ⟨.value f, args, _⟩ => callE P o ρ (ρ f) (args.toList.map ρ) own K
  | _ => ESem P o ρ own K
def eff (P : Program) (mu : Bool) (o : Oper) (ρ : Operand → AV) (own : Own) (K : AV → Own → Prop) : Prop :=
  match pv P mu o.op ρ own with
  | some (c, d) => c ∧ K d own
  | none => effE P o ρ own K

theorem effE_sound {P : Program} {o : Oper} {ρ : Operand → AV} {own : Own} {K : AV → Own → Prop} (hd : effE P o ρ own K) : ESem P o ρ own K := by
  unfold effE at hd
  split at hd
  · rename_i T h; exact es_alloc h hd
  · rename_i T x h; exact es_box h hd
  · rename_i T n parts h; exact es_bslice h hd
  · rename_i T n c h; exact es_make h hd
  · rename_i T a x h; exact es_store h hd
  · rename_i b T x y T' h
    unfold binE' at hd
    split at hd
    · exact es_eqnil h hd
    · exact es_eqnil h hd
    · exact hd
  · rename_i args ts h
    split at hd
    · rename_i s x T U ha ht
      refine es_app ?_ hd
      rw [h]
      congr 2
      · apply Array.ext'; simpa using ha
      · apply Array.ext'; simpa using ht
    · exact hd
  · rename_i f args ts h
    unfold callE at hd
    split at hd
    · rename_i g first cap hg; exact es_call h hg hd
    · exact hd
  · exact hd
theorem eff_sound {P : Program} {mu : Bool} {o : Oper} {ρ : Operand → AV} {own : Own} {K : AV → Own → Prop} (hd : eff P mu o ρ own K) : ESem P o ρ own K := by
  unfold eff at hd
  split at hd
  · rename_i c d h; exact ESem.of_V (pv_sound h hd.1) hd.2
  · exact effE_sound hd

theorem pv_congr {P : Program} {mu : Bool} {op : Op} {ρ ρ' : Operand → AV} {own : Own} (h : ∀ x ∈ op.operands, ρ' x = ρ x) : pv P mu op ρ' own = pv P mu op ρ own := by
  cases op <;> simp only [Op.operands] at h <;> simp only [pv]
  case build T parts =>
    congr 1
    refine List.map_congr_left fun p hp => ?_
    rw [h p.2 (by simp only [List.mem_toArray, List.mem_map]; exact ⟨p, hp, rfl⟩)]
  case buildSlice T n parts =>
    have : (parts.toList.map fun p => (p.1, ρ' p.2)) = parts.toList.map fun p => (p.1, ρ p.2) := by
      refine List.map_congr_left fun p hp => ?_
      rw [h p.2 (by simp only [List.mem_toArray, List.mem_map]; exact ⟨p, hp, rfl⟩)]
    rw [this]
  case makeFunc fn a b =>
    have h1 : a.toList.map ρ' = a.toList.map ρ := List.map_congr_left fun x hx => h x (by simp at hx ⊢; exact .inl hx)
    have h2 : b.toList.map ρ' = b.toList.map ρ := List.map_congr_left fun x hx => h x (by simp at hx ⊢; exact .inr hx)
    rw [h1, h2]
  case slice T x lo hi mx =>
    have h0 : ρ' x = ρ x := h x (by simp)
    have h1 : lo.map ρ' = lo.map ρ := by cases lo with | none => rfl | some y => simp [h y (by simp)]
    have h2 : hi.map ρ' = hi.map ρ := by cases hi with | none => rfl | some y => simp [h y (by simp)]
    have h3 : mx.map ρ' = mx.map ρ := by cases mx with | none => rfl | some y => simp [h y (by simp)]
    rw [h0, h1, h2, h3]
  case call c =>
    obtain ⟨callee, args, ts⟩ := c
    cases callee with
    | builtin b =>
      have h1 : args.toList.map ρ' = args.toList.map ρ := List.map_congr_left fun x hx => h x (by simp [Call.operands] at hx ⊢; exact hx)
      simp only [h1]
    | value f => rfl
    | invoke r m => rfl
  all_goals first
    | rfl
    | (rw [h _ (by simp)]; done)
    | (rw [h _ (by simp), h _ (by simp)]; done)
    | (rename_i x y z; rw [h x (by simp), h y (by simp), h z (by simp)]; done)
    | (rename_i a x y; rw [h x (by simp), h y (by simp)]; done)
    | (rename_i b a x y e; rw [h x (by simp), h y (by simp)]; done)
    | (rename_i a x; rw [h x (by simp)]; done)
theorem ESem.congr_iff {P : Program} {o : Oper} {ρ ρ' : Operand → AV} {own : Own} {K : AV → Own → Prop} (he : ∀ x ∈ o.op.operands, ρ' x = ρ x) : ESem P o ρ' own K = ESem P o ρ own K :=
  propext ⟨fun h => h.congr fun x hx => (he x hx).symm, fun h => h.congr he⟩
theorem effE_congr {P : Program} {o : Oper} {ρ ρ' : Operand → AV} {own : Own} {K : AV → Own → Prop} (h : ∀ x ∈ o.op.operands, ρ' x = ρ x) : effE P o ρ' own K = effE P o ρ own K := by
  have hE := ESem.congr_iff (P := P) (own := own) (K := K) h
  unfold effE
  cases ho : o.op <;> simp only [ho, Op.operands] at h <;> first | exact hE | skip
  case alloc T => rfl
  case box T x => dsimp only; rw [h x (by simp)]
  case buildSlice T n parts =>
    have : (parts.toList.map fun p => (p.1, ρ' p.2)) = parts.toList.map fun p => (p.1, ρ p.2) := by
      refine List.map_congr_left fun p hp => ?_
      rw [h p.2 (by simp only [List.mem_toArray, List.mem_map]; exact ⟨p, hp, rfl⟩)]
    dsimp only
    rw [this]
  case makeSlice T n c => dsimp only; rw [h n (by simp), h c (by simp)]
  case store T a x => dsimp only; rw [h a (by simp), h x (by simp)]
  case binOp b T x y T' =>
    dsimp only
    rw [h x (by simp), h y (by simp)]
    unfold binE'
    split <;> first | rfl | exact hE
  case call c =>
    obtain ⟨callee, args, ts⟩ := c
    cases callee with
    | builtin b =>
      cases b <;> first | exact hE | skip
      dsimp only
      split
      · rename_i s x T U ha ht
        have e1 : args = #[s, x] := by apply Array.ext'; simpa using ha
        subst e1
        rw [h s (by simp [Call.operands]), h x (by simp [Call.operands])]
      · exact hE
    | value f =>
      have h1 : args.toList.map ρ' = args.toList.map ρ := List.map_congr_left fun x hx => h x (by simp [Call.operands] at hx ⊢; exact .inr hx)
      have h2 : ρ' f = ρ f := h f (by simp [Call.operands])
      simp only [h1, h2, callE]
      split
      · rfl
      · exact hE
    | invoke r m => exact hE
theorem eff_congr {P : Program} {mu : Bool} {o : Oper} {ρ ρ' : Operand → AV} {own : Own} {K : AV → Own → Prop} (h : ∀ x ∈ o.op.operands, ρ' x = ρ x) : eff P mu o ρ' own K = eff P mu o ρ own K := by
  unfold eff
  rw [pv_congr h, effE_congr h]
end Go.Proofs.Ytenfgknhongaaaa.Hl
