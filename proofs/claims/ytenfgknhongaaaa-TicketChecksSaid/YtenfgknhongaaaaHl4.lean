/- What an operation that writes nothing comes to, the rest: conversions, slices, new memory that is never written. No condition. -/
import Derived.Test.YtenfgknhongaaaaHl3
import Derived.Laws.BytesArg
set_option linter.unusedVariables false
set_option linter.unusedSimpArgs false

namespace Go.Proofs.Ytenfgknhongaaaa.Hl
open Go

/-! ### Conversions -/
def byteA (b : UInt8) : AV := .raw (.int .u8 b.toNat)
/-- The bytes of a string as abstract values. -/
def bytesA (s : ByteArray) : List AV := s.data.toList.map byteA
/-- The numbers of a list of abstract bytes. -/
def bytesOf : List AV → Option (List UInt8)
  | [] => some []
  | .raw (.int .u8 n) :: l => match bytesOf l with
    | some bs => some (UInt8.ofNat n.toNat :: bs)
    | none => none
  | _ => none

def convA (P : Program) (src dst : Nat) (x : AV) : Option (Prop × AV) :=
  match ti P src, ti P dst, x with
  | some _, some ⟨.int k, _, _, _⟩, .raw (.int _ n) => some (True, .raw (.int k (k.wrap n)))
  | some _, some ⟨.str, _, _, _⟩, .raw (.string s) => some (True, .raw (.string s))
  | some ⟨.str, _, _, _⟩, some ⟨.slc e, _, _, _⟩, .raw (.string s) => match ti P e with
    | some ⟨.int .u8, _, _, _⟩ => some (s.size ≤ 9223372036854775807, .lst 1 (bytesA s))
    | _ => none
  | _, _, _ => none

theorem bytesA_length (s : ByteArray) : (bytesA s).length = s.size := by simp [bytesA]

theorem RepL.bytes {w : World} {F : Frz} {k : Nat} (bs : List UInt8) (off : Nat) (h : Holds w F k off (bs.map fun b => .int .u8 b.toNat)) : RepL w F k off 1 (bs.map byteA) :=
  RepL.of_get _ _ fun i d hi => by
    rw [List.getElem?_map] at hi
    cases hb : bs[i]? with
    | none => rw [hb] at hi; cases hi
    | some b =>
      rw [hb] at hi
      injection hi with hi
      subst hi
      refine ⟨.int .u8 b.toNat, by simp [byteA, Rep, Value.oneCell'], rfl, fun j v hj => ?_⟩
      have hj0 : j = 0 := by
        cases j with
        | zero => rfl
        | succ j => simp [Value.cells] at hj
      subst hj0
      simp [Value.cells] at hj
      subst hj
      simpa using h i (.int .u8 b.toNat) (by simp [hb])

theorem run_markStringish (P : Program) (w : World) (arr : Array Value) (T : Nat) : ∃ m, (markStringish ⟨w.heap.size, 0, none⟩).run P { w with heap := w.heap.push (.cells arr T (0, 0)) } = .ok () { w with heap := w.heap.push (.cells arr T m) } := by
  have h1 : (w.heap.push (.cells arr T (0, 0)))[w.heap.size]? = some (.cells arr T (0, 0)) := by simp
  refine ⟨(arr.size, arr.size + 1), ?_⟩
  simp only [markStringish, Sem.run_bind, run_shape, World.shape?, h1, Result.andThen_ok, run_freeze, World.freeze]
  rw [if_neg (by decide)]
  congr 2
  apply Array.ext_getElem?
  intro i
  rw [Array.getElem?_modify, Array.getElem?_push]
  by_cases hi : w.heap.size = i
  · subst hi; simp
  · have : i ≠ w.heap.size := fun h => hi h.symm
    simp [hi, Array.getElem?_push, this]

theorem vs_conv {P : Program} {o : Oper} {ρ : Operand → AV} {own : Own} {src dst : Nat} {x : Operand} {c : Prop} {d : AV} (h : o.op = .convert src dst x) (hd : convA P src dst (ρ x) = some (c, d)) (hc : c) : VSem P o ρ own d := by
  intro w F ev hf ho hr
  have h1 := hr x (by simp [h, Op.operands])
  generalize ρ x = dx at *
  unfold convA at hd
  split at hd
  · rename_i i0 k sz by_ zs kk n hs hd'
    injection hd with hd; injection hd with hd1 hd2; subst hd1; subst hd2
    obtain ⟨_, sd, _, _, s2, _⟩ := ti_spec hs
    obtain ⟨_, dd, _, _, d2, d3, _⟩ := ti_spec hd'
    have := TK.of_int d3.symm
    subst this
    simp only [Rep] at h1
    have hrun : (execOp ev o).run P w = .ok (.value (.int k (k.wrap n))) w := by
      simp only [execOp, h, h1.1, convert, Sem.run_bind, run_underlying s2, run_underlying d2, Result.andThen_ok]
      cases sd <;> rfl
    unfold OpRes
    rw [hrun]
    exact ⟨F, Ext.refl hf, by simp [Rep, Value.oneCell']⟩
  · rename_i i0 sz by_ zs s hs hd'
    injection hd with hd; injection hd with hd1 hd2; subst hd1; subst hd2
    obtain ⟨_, sd, _, _, s2, _⟩ := ti_spec hs
    obtain ⟨_, dd, _, _, d2, d3, _⟩ := ti_spec hd'
    have := TK.of_str d3.symm
    subst this
    simp only [Rep] at h1
    have hrun : (execOp ev o).run P w = .ok (.value (.string s)) w := by
      simp only [execOp, h, h1.1, convert, Sem.run_bind, run_underlying s2, run_underlying d2, Result.andThen_ok]
      cases sd <;> rfl
    unfold OpRes
    rw [hrun]
    exact ⟨F, Ext.refl hf, by simp [Rep, Value.oneCell']⟩
  · rename_i sz by_ zs e sz' by' zs' s hs hd'
    split at hd
    · rename_i sz2 by2 zs2 he
      injection hd with hd; injection hd with hd1 hd2; subst hd1; subst hd2
      obtain ⟨_, sd, _, _, s2, s3, _⟩ := ti_spec hs
      obtain ⟨_, dd, _, _, d2, d3, _⟩ := ti_spec hd'
      obtain ⟨_, ee, _, _, e2, e3, _⟩ := ti_spec he
      have := TK.of_str s3.symm
      subst this
      have := TK.of_int e3.symm
      subst this
      cases dd <;> simp only [TK.of] at d3 <;> first | cases d3 | skip
      simp only [Rep] at h1
      obtain ⟨n, hn⟩ : ∃ n, n = (Question.appendCap s.size 0 e).cut (w.tape w.drawn (.appendCap s.size 0 e)) := ⟨_, rfl⟩
      have hge : s.size ≤ n := by rw [hn]; simp only [Question.cut]; omega
      let w1 : World := { w with drawn := w.drawn + 1 }
      obtain ⟨arr, harr⟩ : ∃ arr : Array Value, arr = (s.data.map fun b => Value.int .u8 b.toNat) ++ Array.replicate (n - s.size) (.int .u8 0) := ⟨_, rfl⟩
      obtain ⟨m, hm⟩ := run_markStringish P w1 arr e
      have hrun : (execOp ev o).run P w = .ok (.value (.slice (some ⟨w.heap.size, 0, none⟩) s.size n)) { w1 with heap := w1.heap.push (.cells arr e m) } := by
        simp only [execOp, h, h1.1, convert, Sem.run_bind, run_underlying s2, run_underlying d2, run_underlying e2, Result.andThen_ok, Conv.stringToBytes, run_choose, Question.forced, Bool.false_eq_true, if_false, ← hn, newRow, run_newObj, Sem.run_pure, ← harr]
        have := hm
        simp only [w1] at this
        rw [this]
        rfl
      unfold OpRes
      rw [hrun]
      refine ⟨FrzNew F w.heap.size s.size, ?_, ?_⟩
      · exact (Ext.drawn hf _).trans (Ext.push (w := w1) hf _ _)
      · simp only [Rep]
        refine ⟨_, n, by rw [bytesA_length], by rw [bytesA_length]; exact hge, by rw [bytesA_length]; exact hc, fun _ => ⟨_, _, rfl, ?_⟩⟩
        refine RepL.bytes _ _ (Holds.new w1 F arr e m 0 s.size _ (by simp) fun i v hi => ?_)
        rw [harr, Nat.zero_add]
        rw [List.getElem?_map] at hi
        have hlt : i < s.data.size := by
          rcases Nat.lt_or_ge i s.data.size with h' | h'
          · exact h'
          · rw [List.getElem?_eq_none (by simpa using h')] at hi; cases hi
        rw [Array.getElem?_append_left (by simpa using hlt)]
        simpa using hi
    · cases hd
  · cases hd

/-! ### A list of bytes as a string -/
theorem bytesOf_map (bs : List UInt8) : bytesOf (bs.map byteA) = some bs := by
  induction bs with
  | nil => rfl
  | cons b bs ih => simp only [List.map_cons]; simp only [byteA, bytesOf]; rw [show List.map byteA bs = List.map (fun b : UInt8 => AV.raw (.int .u8 b.toNat)) bs from rfl] at ih; rw [show List.map byteA bs = List.map (fun b : UInt8 => AV.raw (.int .u8 b.toNat)) bs from rfl, ih]; simp
theorem bytesOf_append {l m : List AV} {a b : List UInt8} (h : bytesOf l = some a) (h' : bytesOf m = some b) : bytesOf (l ++ m) = some (a ++ b) := by
  induction l generalizing a with
  | nil => simp only [bytesOf] at h; injection h with h; subst h; simpa using h'
  | cons d l ih =>
    cases d with
    | raw v =>
      cases v with
      | int k n =>
        cases k <;> simp only [bytesOf] at h <;> first | cases h | skip
        split at h
        · rename_i bs hb
          injection h with h
          subst h
          simp only [List.cons_append, bytesOf, ih hb]
        · cases h
      | _ => simp [bytesOf] at h
    | _ => simp [bytesOf] at h
theorem bytesOf_reps {w : World} {F : Frz} : ∀ {l : List AV} {bs : List UInt8} {xs : List Value}, bytesOf l = some bs → Reps w F l xs → ∃ ns : List Int, xs = ns.map (Value.int .u8) ∧ bs = ns.map fun n => UInt8.ofNat n.toNat
  | [], bs, xs, h, hr => by simp only [bytesOf] at h; injection h with h; simp only [Reps] at hr; exact ⟨[], by simp [hr], by simp [← h]⟩
  | d :: l, bs, xs, h, hr => by
    simp only [Reps] at hr
    obtain ⟨x, ys, rfl, h1, h2⟩ := hr
    cases d with
    | raw v =>
      cases v with
      | int k n =>
        cases k <;> simp only [bytesOf] at h <;> first | cases h | skip
        split at h
        · rename_i bs' hb
          injection h with h
          obtain ⟨ns, e1, e2⟩ := bytesOf_reps hb h2
          simp only [Rep] at h1
          exact ⟨n :: ns, by simp [h1.1, e1], by simp [← h, e2]⟩
        · cases h
      | _ => simp [bytesOf] at h
    | _ => simp [bytesOf] at h

theorem RepL.flat1 {w : World} {F : Frz} {k : Nat} : ∀ {l : List AV} {off : Nat}, RepL w F k off 1 l → (∀ d ∈ l, oneA d = true) → ∃ xs, Reps w F l xs ∧ ∀ j v, xs[j]? = some v → w.cell? ⟨k, off + j, none⟩ = some v
  | [], off, h, _ => ⟨[], by simp [Reps], by simp⟩
  | d :: l, off, h, hd => by
    simp only [RepL] at h
    obtain ⟨⟨x, h1, h2, h3⟩, h4⟩ := h
    obtain ⟨xs, g1, g2⟩ := RepL.flat1 h4 fun e he => hd e (by simp [he])
    refine ⟨x :: xs, by simp only [Reps]; exact ⟨x, xs, rfl, h1, g1⟩, fun j v hj => ?_⟩
    cases j with
    | zero =>
      simp at hj; subst hj
      have hc := cells_one (h1.one (hd d (by simp)))
      rw [hc] at h3
      simpa using (h3 0 x (by simp)).2
    | succ j =>
      simp at hj
      have := g2 j v hj
      rwa [show off + 1 + j = off + (j + 1) by omega] at this
theorem bytesOf_one : ∀ {l : List AV} {bs : List UInt8}, bytesOf l = some bs → ∀ d ∈ l, oneA d = true
  | [], bs, h, d, hd => by cases hd
  | e :: l, bs, h, d, hd => by
    cases e with
    | raw v =>
      cases v with
      | int k n =>
        cases k <;> simp only [bytesOf] at h <;> first | cases h | skip
        split at h
        · rename_i bs' hb
          rcases List.mem_cons.1 hd with rfl | hd
          · rfl
          · exact bytesOf_one hb d hd
        · cases h
      | _ => simp [bytesOf] at h
    | _ => simp [bytesOf] at h

/-- The bytes that a slice of bytes holds. -/
def sliceBytes (x : AV) (own : Own) : Option (Prop × List UInt8) :=
  match x with
  | .lst 1 l => match bytesOf l with
    | some bs => some (True, bs)
    | none => none
  | .raw (.slice none _ _) => some (True, [])
  | .emp => some (True, [])
  | .raw (.slice (some ⟨k, off, none⟩) n _) => match own k with
    | some o => match bytesOf ((o.cs.drop off).take n) with
      | some bs => some (off + n ≤ o.cs.length, bs)
      | none => none
    | none => none
  | _ => none
def strA (P : Program) (src dst : Nat) (x : AV) (own : Own) : Option (Prop × AV) :=
  match ti P src, ti P dst with
  | some ⟨.slc e, _, _, _⟩, some ⟨.str, _, _, _⟩ => match ti P e with
    | some ⟨.int .u8, _, _, _⟩ => match sliceBytes x own with
      | some (c, bs) => some (c, .raw (.string ⟨bs.toArray⟩))
      | none => none
    | _ => none
  | _, _ => none

theorem run_bytes_any {P : Program} {w : World} {src e dst : Nat} (hs : P.underlying src = some (.slice e)) (he : P.underlying e = some (.int .u8)) (hd : P.underlying dst = some .string) (A : Option Addr) (c : Nat) :
    (convert src dst (.slice A 0 c)).run P w = .ok (.string ⟨#[]⟩) w := by
  rw [run_convert_bytes_string w src dst e A 0 c hs he hd]
  cases A with
  | none => simp [Conv.bytesToString]; rfl
  | some a =>
    rw [run_bytesToString w a 0 c [] (by simp [loadCells, loadCellsFrom])]
    rfl

theorem vs_str {P : Program} {o : Oper} {ρ : Operand → AV} {own : Own} {src dst : Nat} {x : Operand} {c : Prop} {d : AV} (h : o.op = .convert src dst x) (hd : strA P src dst (ρ x) own = some (c, d)) (hc : c) : VSem P o ρ own d := by
  unfold strA at hd
  split at hd
  · rename_i e sz by_ zs sz' by' zs' hs hd'
    split at hd
    · rename_i sz2 by2 zs2 he
      split at hd
      · rename_i c' bs hb
        injection hd with hd; injection hd with hd1 hd2; subst hd1; subst hd2
        obtain ⟨_, sd, _, _, s2, s3, _⟩ := ti_spec hs
        obtain ⟨_, dd, _, _, d2, d3, _⟩ := ti_spec hd'
        obtain ⟨_, ee, _, _, e2, e3, _⟩ := ti_spec he
        have := TK.of_str d3.symm
        subst this
        have := TK.of_int e3.symm
        subst this
        cases sd <;> simp only [TK.of] at s3 <;> first | cases s3 | skip
        refine VSem.of_run fun w F ev hf ho hr => ⟨_, ?_, by simp [Rep, Value.oneCell']; rfl⟩
        have h1 := hr x (by simp [h, Op.operands])
        have key : ∀ y, (convert src dst (ev x)).run P w = .ok y w → (execOp ev o).run P w = .ok (.value y) w := fun y hy => by
          simp only [execOp, h]
          rw [Sem.run_bind, hy]
          rfl
        apply key
        generalize ρ x = dx at *
        unfold sliceBytes at hb
        split at hb
        · rename_i l
          split at hb
          · rename_i bs' hb'
            injection hb with hb; injection hb with hb1 hb2; subst hb1; subst hb2
            simp only [Rep] at h1
            obtain ⟨A, cp, e, g1, g2, g3⟩ := h1
            rw [e]
            by_cases hl : l = []
            · subst hl
              simp only [bytesOf] at hb'
              injection hb' with hb'
              subst hb'
              exact run_bytes_any s2 e2 d2 A cp
            · obtain ⟨k, off, rfl, hL⟩ := g3 hl
              obtain ⟨xs, x1, x2⟩ := hL.flat1 (bytesOf_one hb')
              obtain ⟨ns, n1, n2⟩ := bytesOf_reps hb' x1
              have hlen := x1.length
              rw [n1, List.length_map] at hlen
              have := run_convert_bytes_arg (P := P) w src _ s2 e2 k off l.length cp ns hlen (fun i hi => by
                refine x2 i _ ?_
                rw [n1, List.getElem?_map, List.getElem?_eq_getElem (by omega)]
                simp [List.getD_eq_getElem?_getD, List.getElem?_eq_getElem (show i < ns.length by omega)]) dst d2
              rw [this, strOfNums, n2]
          · cases hb
        · injection hb with hb; injection hb with hb1 hb2; subst hb1; subst hb2
          simp only [Rep] at h1
          rw [h1.1, run_convert_bytes_nil w src _ s2 e2 _ _ dst d2]
          rfl
        · injection hb with hb; injection hb with hb1 hb2; subst hb1; subst hb2
          simp only [Rep] at h1
          obtain ⟨A, h1⟩ := h1
          rw [h1]
          exact run_bytes_any s2 e2 d2 A 0
        · rename_i k off n cp
          split at hb
          · rename_i ob hob
            split at hb
            · rename_i bs' hb'
              injection hb with hb; injection hb with hb1 hb2; subst hb1; subst hb2
              simp only [Rep] at h1
              obtain ⟨xs, g1, g2, g3, g4⟩ := (ho k ob hob).cells off n hc
              obtain ⟨ns, n1, n2⟩ := bytesOf_reps hb' g3
              have hlen : ns.length = n := by rw [← g1, n1, List.length_map]
              rw [h1.1]
              have := run_convert_bytes_arg (P := P) w src _ s2 e2 k off n cp ns hlen (fun i hi => by
                refine g2 i _ ?_
                rw [n1, List.getElem?_map, List.getElem?_eq_getElem (by omega)]
                simp [List.getD_eq_getElem?_getD, List.getElem?_eq_getElem (show i < ns.length by omega)]) dst d2
              rw [this, strOfNums, n2]
            · cases hb
          · cases hb
        · cases hb
      · cases hd
    · cases hd
  · cases hd
end Go.Proofs.Ytenfgknhongaaaa.Hl
