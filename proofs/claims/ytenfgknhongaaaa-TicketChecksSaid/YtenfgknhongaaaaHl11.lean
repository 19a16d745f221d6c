/- What the symbolic run of a body unfolds. No condition. -/
import Derived.Test.YtenfgknhongaaaaHlH
import Derived.Attr
set_option linter.unusedVariables false
set_option linter.unusedSimpArgs false

namespace Go.Proofs.Ytenfgknhongaaaa.Hl
open Go
attribute [go_sem] wpC_skip wpC_drawn wpC_region wpC_seq wpC_cond wpC_block wpC_exit wpC_ret wpC_loop condH_bool wpL_nilH wpL_consH wpD_nilH wpD_consH guardH_true guardH_false stGh_none stGh_some effM_some effM_none stEh_v stEh_r stEh_c stEh_e allocH_some effE_alloc effE_box boxH_eq bsH2_some bsH_some effE_bslice storeH3_some storeH_ptr effE_store makeH2_some makeH_some effE_make effE_bin binH_lst binH_emp effE_call callH_clo appH5_some appH4_emp appH4_nil appH4_row appH4_rowR appH6_some rowB appH3_some appH2_some appH_some effE_append endH_some endA_H pv pvPick pickA pvBin pvUn pvConv pvLoad trueA pvFaddr pvField pvIaddr pvIndex pvSlice pvLen pvCall binV binE unV convA strA sliceBytes loadA nilA fieldA faddrA subA subOk partA putA iaddrA elemOfK indexA sliceA bndA extractA buildV buildA putCells fitQ bsA partsOk lenA mmA srcA eqNilE muOf memB gv St.ev upd constA thenA inBlockA bodyQ resAs resA tupA startA argTm tmL_nil tmL_cons items TK.agg
attribute [go_sem] List.toList_toArray List.getElem?_cons_zero List.getElem?_cons_succ List.getElem?_nil List.getElem?_toArray Option.getD_some Option.getD_none Option.bind_some Option.bind_none Option.map_some Option.map_none true_and and_true List.map_cons List.map_nil List.nil_append List.append_nil List.cons_append List.drop_zero List.drop_succ_cons List.take_succ_cons List.take_zero List.length_cons List.length_nil List.flatMap_cons List.flatMap_nil List.zip_cons_cons List.zip_nil_right List.zipIdx_cons List.zipIdx_nil List.contains_nil List.all_cons List.all_nil Bool.and_true Bool.true_and Value.oneCell' Own.set_same Own.move_same
theorem cellsA_raw (v : Value) : cellsA (.raw v) = [.raw v] := rfl
theorem cellsA_lst (n : Nat) (l : List AV) : cellsA (.lst n l) = [.lst n l] := rfl
theorem cellsA_ref (d : AV) : cellsA (.ref d) = [.ref d] := rfl
theorem cellsA_clo (f : Fn) (a b : List AV) : cellsA (.clo f a b) = [.clo f a b] := rfl
theorem cellsA_st (l : List AV) : cellsA (.st l) = l := rfl
theorem cellsA_emp : cellsA .emp = [.emp] := rfl
theorem cellsA_byte (b : UInt8) : cellsA (byteA b) = [byteA b] := rfl
theorem fitA_raw (i : TI) (v : Value) : fitA i (.raw v) = (i.k.agg = false ∧ i.size = 1) := rfl
theorem fitA_lst (i : TI) (n : Nat) (l : List AV) : fitA i (.lst n l) = (i.k.agg = false ∧ i.size = 1) := rfl
theorem fitA_ref (i : TI) (d : AV) : fitA i (.ref d) = (i.k.agg = false ∧ i.size = 1) := rfl
theorem fitA_clo (i : TI) (f : Fn) (a b : List AV) : fitA i (.clo f a b) = (i.k.agg = false ∧ i.size = 1) := rfl
theorem fitA_emp (i : TI) : fitA i .emp = (i.k.agg = false ∧ i.size = 1) := rfl
theorem fitA_st (i : TI) (l : List AV) : fitA i (.st l) = (i.k.agg = true ∧ l.length = i.size) := rfl
theorem fitA_byte (i : TI) (b : UInt8) : fitA i (byteA b) = (i.k.agg = false ∧ i.size = 1) := rfl
theorem okA_byte (b : UInt8) : okA (byteA b) = True := rfl
attribute [go_sem] cellsA_raw cellsA_lst cellsA_ref cellsA_clo cellsA_st cellsA_emp cellsA_byte fitA_raw fitA_lst fitA_ref fitA_clo fitA_emp fitA_st fitA_byte okA_byte
attribute [go_sem] List.getD_cons_zero List.getD_cons_succ List.set_cons_zero List.set_cons_succ implies_true true_implies forall_const
theorem okA_raw (v : Value) : okA (.raw v) = True := rfl
theorem okA_lst (n : Nat) (l : List AV) : okA (.lst n l) = True := rfl
theorem okA_ref (d : AV) : okA (.ref d) = True := rfl
theorem okA_clo (f : Fn) (a b : List AV) : okA (.clo f a b) = True := rfl
theorem okA_st (l : List AV) : okA (.st l) = True := rfl
theorem okA_emp : okA .emp = True := rfl
attribute [go_sem] okA_raw okA_lst okA_ref okA_clo okA_st okA_emp and_true true_and and_false false_and or_true true_or or_false false_or Nat.mul_one Nat.one_mul Nat.zero_add Nat.add_zero Nat.mul_zero Nat.zero_mul Nat.le_refl Nat.zero_le Bool.not_true Bool.not_false
attribute [go_sem] AV.raw.injEq AV.st.injEq AV.tup.injEq AV.lst.injEq Value.int.injEq Value.bool.injEq Value.string.injEq Value.slice.injEq List.cons.injEq List.flatten_replicate_singleton Own.set_set
theorem forall_nil (p : AV → Prop) : (∀ d ∈ ([] : List AV), p d) = True := by simp
theorem forall_cons (p : AV → Prop) (a : AV) (l : List AV) : (∀ d ∈ a :: l, p d) = (p a ∧ ∀ d ∈ l, p d) := by simp
theorem cast_one' : ((1 : Nat) : Int) = 1 := rfl
attribute [go_sem] forall_nil forall_cons cast_one' Int.mul_one Int.toNat_natCast
attribute [go_sem] Br_true Br_false BrG beq_self_eq_true Arm_true Arm_false eqStV eqSt eqFs eqOne
attribute [go_sem] Int.cast_ofNat_Int imp_self not_false_eq_true ne_eq and_self decide_true decide_false not_true_eq_false
theorem puts_some (n : Nat) (tm : Nat → AV) (own0 own : Own) (t : Nat) (d : AV) (K : St → Prop) (hK : HoldS K) : St.puts ⟨n, tm, own0⟩ (some t) d own K hK = (t < n ∧ K ⟨n, upd tm t d, own⟩) := rfl
theorem puts_none (n : Nat) (tm : Nat → AV) (own0 own : Own) (d : AV) (K : St → Prop) (hK : HoldS K) : St.puts ⟨n, tm, own0⟩ none d own K hK = K ⟨n, tm, own⟩ := rfl
attribute [go_sem] puts_some puts_none
theorem append_cons' {α : Type} (a : α) (l m : List α) : List.append (a :: l) m = a :: List.append l m := rfl
theorem append_nil' {α : Type} (m : List α) : List.append [] m = m := rfl
attribute [go_sem] append_cons' append_nil'
theorem take_byte (n : Nat) (l : List UInt8) : List.take n (l.map byteA) = (l.take n).map byteA := List.map_take.symm
theorem drop_byte (n : Nat) (l : List UInt8) : List.drop n (l.map byteA) = (l.drop n).map byteA := List.map_drop.symm
theorem len_byte (l : List UInt8) : (l.map byteA).length = l.length := List.length_map _
theorem take_drop_self {α : Type} (n : Nat) (l : List α) : List.take (l.length - n) (List.drop n l) = List.drop n l := List.take_of_length_le (by simp)
attribute [go_sem] take_byte drop_byte len_byte take_drop_self Nat.sub_zero bytesOf_map
end Go.Proofs.Ytenfgknhongaaaa.Hl
