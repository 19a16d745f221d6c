/- The logic's view of types, and what one operation that writes nothing comes to. No condition. -/
import Derived.Test.YtenfgknhongaaaaHl0
set_option linter.unusedVariables false
set_option linter.unusedSimpArgs false

namespace Go.Proofs.Ytenfgknhongaaaa.Hl
open Go

/-! ### Types -/
inductive TK where
  | bool | int (k : IntKind) | str | ptr (e : Nat) | slc (e : Nat) | arr (n e : Nat) | st (fs : List (Nat × Nat × Bool)) | map (k e : Nat) | fn | iface | other
  deriving Inhabited
def TK.of : TypeDesc → TK
  | .bool => .bool | .int k => .int k | .string => .str | .pointer e => .ptr e | .slice e => .slc e | .array n e => .arr n e
  | .struct fs => .st (fs.toList.map fun f => (f.offset, f.type, f.name != "_")) | .map k e => .map k e | .func .. => .fn | .interface .. => .iface | _ => .other
def TK.agg : TK → Bool
  | .st _ | .arr _ _ => true
  | _ => false
structure TI where
  k : TK
  size : Nat
  bytes : Nat
  zero : List Value
def ti (P : Program) (t : Nat) : Option TI :=
  match P.info? t, P.underlying t with
  | some i, some d => match i.zero with
    | some z => some ⟨TK.of d, i.size, i.bytes, z.cells.toList⟩
    | none => none
  | _, _ => none
theorem ti_spec {P : Program} {t : Nat} {i : TI} (h : ti P t = some i) : ∃ info d z, P.info? t = some info ∧ P.underlying t = some d ∧ i.k = TK.of d ∧
    info.size = i.size ∧ info.bytes = i.bytes ∧ info.zero = some z ∧ z.cells.toList = i.zero := by
  unfold ti at h
  split at h
  · rename_i info d h1 h2
    split at h
    · rename_i z hz
      injection h with h
      subst h
      exact ⟨info, d, z, h1, h2, rfl, rfl, rfl, hz, rfl⟩
    · cases h
  · cases h

section
variable {P : Program} {w : World}
theorem run_underlying {t : Nat} {d : TypeDesc} (h : P.underlying t = some d) : (underlying t).run P w = .ok d w := by
  simp [underlying, h]
theorem run_typeInfo {t : Nat} {i : TypeInfo} (h : P.info? t = some i) : (typeInfo t).run P w = .ok i w := by
  simp [typeInfo, h]
theorem run_sizeOf {t : Nat} {i : TypeInfo} (h : P.info? t = some i) : (sizeOf t).run P w = .ok i.size w := by
  simp [sizeOf, run_typeInfo h]
theorem run_zeroValue {t : Nat} {i : TypeInfo} {z : Value} (h : P.info? t = some i) (hz : i.zero = some z) : (zeroValue t).run P w = .ok z w := by
  simp [zeroValue, run_typeInfo h, hz]
theorem run_isAgg {t : Nat} {d : TypeDesc} (h : P.underlying t = some d) : (isAgg t).run P w = .ok (TK.of d).agg w := by
  simp only [isAgg, Sem.run_bind, run_underlying h, Result.andThen_ok]
  cases d <;> rfl
end

/-! ### Values' cells -/
def cellsA : AV → List AV
  | .st cs => cs
  | d => [d]
def mkA (agg : Bool) (cs : List AV) : AV := match agg, cs with
  | true, cs => .st cs
  | false, d :: _ => d
  | false, [] => .any
def fitA (i : TI) : AV → Prop
  | .st cs => i.k.agg = true ∧ cs.length = i.size
  | .tup _ | .any => False
  | _ => i.k.agg = false ∧ i.size = 1

theorem cells_one {x : Value} (h : x.oneCell' = true) : x.cells = #[x] := by cases x <;> simp_all [Value.oneCell', Value.cells]

def oneA : AV → Bool
  | .st _ | .tup _ | .any => false
  | _ => true
theorem Rep.one {w : World} {F : Frz} {d : AV} {x : Value} (h : Rep w F d x) (hd : oneA d = true) : x.oneCell' = true := by
  cases d <;> simp only [oneA] at hd <;> first | cases hd | skip
  all_goals simp only [Rep] at h
  · exact h.1 ▸ h.2
  · obtain ⟨A, c, rfl, _⟩ := h; rfl
  · obtain ⟨k, off, y, rfl, _⟩ := h; rfl
  · obtain ⟨xs, ys, rfl, _⟩ := h; rfl
  · obtain ⟨A, rfl⟩ := h; rfl

/-- A value that fits its type, and its cells. -/
theorem Rep.cells {w : World} {F : Frz} {d : AV} {x : Value} {i : TI} (h : Rep w F d x) (hf : fitA i d) :
    x.cells.size = i.size ∧ Reps w F (cellsA d) x.cells.toList ∧ (∀ y ∈ x.cells.toList, y.oneCell' = true) ∧ (cellsA d).length = i.size ∧
    (i.k.agg = true → x = .agg x.cells) ∧ (i.k.agg = false → x.cells = #[x]) := by
  cases d with
  | st cs =>
    simp only [fitA] at hf
    simp only [Rep] at h
    obtain ⟨xs, rfl, h1, h2⟩ := h
    refine ⟨?_, ?_, ?_, hf.2, fun _ => rfl, fun hh => ?_⟩
    · simpa [Value.cells, h1.length] using hf.2
    · simpa [Value.cells, cellsA] using h1
    · simpa [Value.cells] using h2
    · rw [hf.1] at hh; cases hh
  | tup ds => exact hf.elim
  | any => exact hf.elim
  | _ =>
    simp only [fitA] at hf
    have h1 := cells_one (h.one rfl)
    refine ⟨by simp [h1, hf.2], ?_, ?_, by simp [cellsA, hf.2], fun hh => ?_, fun _ => h1⟩
    · rw [h1]; simp only [cellsA, Reps]; exact ⟨_, _, rfl, h, rfl⟩
    · rw [h1]; simpa using h.one rfl
    · rw [hf.1] at hh; cases hh

theorem mkA_cellsA {d : AV} {i : TI} (hf : fitA i d) : mkA i.k.agg (cellsA d) = d := by
  cases d <;> simp only [fitA] at hf
  all_goals first | exact hf.elim | (rw [hf.1]; rfl)

/-- Cells that are one value of a type. -/
theorem Rep.of_cells {w : World} {F : Frz} {cs : List AV} {xs : List Value} {i : TI} (h : Reps w F cs xs) (h1 : ∀ y ∈ xs, y.oneCell' = true) (hn : cs.length = i.size) (hs : i.k.agg = false → i.size = 1) :
    Rep w F (mkA i.k.agg cs) (if i.k.agg then .agg xs.toArray else xs.headD undef) := by
  cases ha : i.k.agg with
  | true => simp only [mkA, if_true, Rep]; exact ⟨xs, rfl, h, h1⟩
  | false =>
    have := hs ha
    obtain ⟨d, rfl⟩ : ∃ d, cs = [d] := by
      cases cs with
      | nil => simp at hn; omega
      | cons d ds => cases ds with
        | nil => exact ⟨d, rfl⟩
        | cons e es => simp at hn; omega
    simp only [Reps] at h
    obtain ⟨x, ys, rfl, hx, rfl⟩ := h
    simpa [mkA] using hx

/-! ### Loading from memory -/
theorem run_loadVar {P : Program} {w : World} {t : Nat} {i : TI} (hi : ti P t = some i) {k off : Nat} {xs : List Value} (hn : xs.length = i.size) (hs : i.k.agg = false → i.size = 1)
    (h : ∀ j v, xs[j]? = some v → w.cell? ⟨k, off + j, none⟩ = some v) :
    (loadVar t ⟨k, off, none⟩).run P w = .ok (if i.k.agg then .agg xs.toArray else xs.headD undef) w := by
  obtain ⟨info, d, z, e1, e2, e3, e4, e5, e6, e7⟩ := ti_spec hi
  unfold loadVar
  rw [Sem.run_bind, run_isAgg e2, Result.andThen_ok, ← e3]
  cases ha : i.k.agg with
  | true =>
    simp only [if_true, Sem.run_bind, run_sizeOf e1, Result.andThen_ok, e4]
    rw [← hn, run_loadCells_list w ⟨k, off, none⟩ xs (fun j v hj => by rw [Addr.add_plain]; exact h j v hj)]
    rfl
  | false =>
    have h1 := hs ha
    obtain ⟨x, rfl⟩ : ∃ x, xs = [x] := by
      cases xs with
      | nil => simp at hn; omega
      | cons d ds => cases ds with
        | nil => exact ⟨d, rfl⟩
        | cons e es => simp at hn; omega
    have := h 0 x rfl
    simp only [Nat.add_zero] at this
    simp [run_load, this]
end Go.Proofs.Ytenfgknhongaaaa.Hl
