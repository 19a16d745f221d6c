/- Authenticators are sealed and opened; the laws. -/
import Derived.Test.YtghnigbihllnmaaGreatHlC
import Derived.Test.YtghnigbihllnmaaGreatSp1
import Derived.Test.YtghnigbihllnmaaGreatTy
import Derived.Test.YtghnigbihllnmaaGreatFn5
import Derived.Test.YtghnigbihllnmaaGreatFn12
import Derived.Test.YtghnigbihllnmaaGreatFn13
import Derived.Test.YtghnigbihllnmaaGreatFn17
import Derived.Test.YtghnigbihllnmaaGreatFn18
import Derived.Test.YtghnigbihllnmaaGreatFn19
import Derived.Test.YtghnigbihllnmaaGreatFn24
import Derived.Test.YtghnigbihllnmaaGreatFn26
import Derived.Test.YtghnigbihllnmaaGreatFn27
set_option linter.unusedVariables false
set_option linter.unusedSimpArgs false
namespace Go.Proofs.YtghnigbihllnmaaGreat.Fn
open Go Hl Sp Ty
set_option maxRecDepth 100000

theorem numB_8 {k : Int} (h0 : 0 ≤ k) (h1 : k < 18446744073709551616) : ((readV (numB k 8 false) false : Nat) : Int) = k := read_key h0 h1
theorem boxR_box (kind k : Int) (body : List UInt8) (hk : kindB kind = true) (hc : clsZ k ≠ 0) (h0 : 0 ≤ k) (h1 : k < 18446744073709551616) (hb : body.length ≤ 1000) : boxR (boxB kind k body) = (kind, k, body, ((boxB kind k body).length : Int), 0) := by
  have hkl := numB_length k 8 false
  have hrd := numB_8 h0 h1
  obtain ⟨kb, hkb⟩ : ∃ x, numB k 8 false = x := ⟨_, rfl⟩
  rw [hkb] at hkl hrd
  obtain ⟨x0, x1, x2, x3, x4, x5, x6, x7, rfl⟩ : ∃ x0 x1 x2 x3 x4 x5 x6 x7, kb = [x0, x1, x2, x3, x4, x5, x6, x7] := by
    match kb, hkl with
    | [x0, x1, x2, x3, x4, x5, x6, x7], _ => exact ⟨x0, x1, x2, x3, x4, x5, x6, x7, rfl⟩
  have hk' : 1 ≤ kind ∧ kind ≤ 10 := by unfold kindB at hk; simpa using hk
  have e1 : ((u8 kind).toNat : Int) = kind := by rw [u8_toNat]; omega
  have eh : ((u8 ((body.length : Int).fdiv (2 ^ 8))).toNat : Int) = body.length / 256 := by
    rw [u8_toNat, Int.fdiv_eq_ediv_of_nonneg _ (by decide), show (2 : Int) ^ 8 = 256 by decide]; omega
  have el : ((u8 body.length).toNat : Int) = body.length % 256 := u8_toNat _
  have hB : boxB kind k body = 66 :: u8 kind :: x0 :: x1 :: x2 :: x3 :: x4 :: x5 :: x6 :: x7 :: u8 ((body.length : Int).fdiv (2 ^ 8)) :: u8 body.length :: body := by
    unfold boxB; rw [hkb]; rfl
  rw [hB]
  have hn : 256 * (u8 ((body.length : Int).fdiv (2 ^ 8))).toNat + (u8 (body.length : Int)).toNat = body.length := by omega
  have hq : keyR [x0, x1, x2, x3, x4, x5, x6, x7] = (k, true) := by
    unfold keyR
    rw [if_pos ⟨rfl, by rw [hrd]; exact hc⟩, hrd]
  unfold boxR
  simp only [List.getD_cons_succ, List.getD_cons_zero, List.drop_succ_cons, List.drop_zero, List.take_succ_cons, List.take_zero, hq, hn, e1, hk, List.length_cons]
  rw [if_neg (by omega), if_neg (by simp; omega), if_neg (by omega), List.take_of_length_le (Nat.le_refl _)]
  congr 3
  simp only [Prod.mk.injEq, and_true]
  omega
theorem openR_box (kind k k' : Int) (body : List UInt8) (hk : kindB kind = true) (hc : clsZ k ≠ 0) (h0 : 0 ≤ k) (h1 : k < 18446744073709551616) (hb : body.length ≤ 1000) : openR (boxB kind k body) kind k' = if k = k' then some body else none := by
  unfold openR
  simp only [boxR_box kind k body hk hc h0 h1 hb]
  by_cases h : k = k'
  · simp [h]
  · simp [h]
theorem openR_len {b : List UInt8} {kind k : Int} {x : List UInt8} (h : openR b kind k = some x) : x.length ≤ b.length := by
  unfold openR at h
  simp only at h
  split at h
  · injection h with h
    rw [← h]
    unfold boxR
    simp only
    split
    · exact Nat.zero_le _
    · split
      · exact Nat.zero_le _
      · split
        · exact Nat.zero_le _
        · simp only [List.length_take, List.length_drop]; omega
  · cases h

/-- What Seal answers. -/
def sealA (n i r : ByteArray) (c t m : Int) (little : Bool) (k : Int) : AV := if authChk n i r c t m = 0 then boxM 2 k (authB n i r c t m little) else .tup [.lst 1 [], .raw (.int .i64 (authChk n i r c t m))]
theorem sealA_form (n i r : ByteArray) (c t m : Int) (little : Bool) (k : Int) (hn : n.size ≤ 1000) (hi : i.size ≤ 1000) (hr : r.size ≤ 1000) : ∃ (x : List UInt8) (e : Int), sealA n i r c t m little k = .tup [.lst 1 (x.map byteA), .raw (.int .i64 e)] ∧ x.length ≤ 10000 := by
  unfold sealA
  split
  · refine ⟨_, _, rfl, ?_⟩
    split
    · have := authB_length n i r c t m little
      simp only [boxB, List.length_append, numB_length, List.length_cons, List.length_nil]
      omega
    · exact Nat.zero_le _
  · exact ⟨[], _, rfl, Nat.zero_le _⟩
/-- What Open answers. -/
def OpS (b : List UInt8) (little : Bool) (k : Int) (d : AV) : Prop :=
  (∃ body, openR b 2 k = some body ∧ ∃ n i r c t m, AuthIs body little n i r c t m ∧ d = .tup [authA n i r c t m, .raw (.int .i64 0)]) ∨
  ((∀ body, openR b 2 k = some body → ∀ n i r c t m, ¬ AuthIs body little n i r c t m) ∧ d = .tup [authA ⟨#[]⟩ ⟨#[]⟩ ⟨#[]⟩ 0 0 0, .raw (.int .i64 31)])
theorem OpS.unique {b : List UInt8} {little : Bool} {k : Int} {d d' : AV} (h : OpS b little k d) (h' : OpS b little k d') : d = d' := by
  rcases h with ⟨x, hx, n, i, r, c, t, m, h1, rfl⟩ | ⟨h1, rfl⟩
  · rcases h' with ⟨x', hx', n', i', r', c', t', m', h2, rfl⟩ | ⟨h2, rfl⟩
    · rw [hx] at hx'
      injection hx' with hx'
      subst hx'
      obtain ⟨rfl, rfl, rfl, rfl, rfl, rfl⟩ := h1.inj h2
      rfl
    · exact absurd h1 (h2 x hx _ _ _ _ _ _)
  · rcases h' with ⟨x', hx', n', i', r', c', t', m', h2, rfl⟩ | ⟨h2, rfl⟩
    · exact absurd h2 (h1 x' hx' _ _ _ _ _ _)
    · rfl
theorem OpS.form {b : List UInt8} {little : Bool} {k : Int} {d : AV} (h : OpS b little k d) : ∃ n i r c t m e, d = .tup [authA n i r c t m, .raw (.int .i64 e)] := by
  rcases h with ⟨_, _, n, i, r, c, t, m, _, rfl⟩ | ⟨_, rfl⟩
  · exact ⟨_, _, _, _, _, _, _, rfl⟩
  · exact ⟨_, _, _, _, _, _, _, rfl⟩
end Go.Proofs.YtghnigbihllnmaaGreat.Fn
