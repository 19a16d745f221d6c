/- Tickets are decoded. -/
import Derived.Test.YtghnigbihllnmaaGreatHlC
import Derived.Test.YtghnigbihllnmaaGreatSp1
import Derived.Test.YtghnigbihllnmaaGreatTy
import Derived.Test.YtghnigbihllnmaaGreatFn1
import Derived.Test.YtghnigbihllnmaaGreatFn2
import Derived.Test.YtghnigbihllnmaaGreatFn3
import Derived.Test.YtghnigbihllnmaaGreatFn5
import Derived.Test.YtghnigbihllnmaaGreatFn8
import Derived.Test.YtghnigbihllnmaaGreatFn9
import Derived.Test.YtghnigbihllnmaaGreatFn13
import Derived.Test.YtghnigbihllnmaaGreatFn15
import Derived.Test.YtghnigbihllnmaaGreatFn16
import Derived.Test.YtghnigbihllnmaaGreatFn17
import Derived.Test.YtghnigbihllnmaaGreatFn19
import Derived.Test.YtghnigbihllnmaaGreatFn21
import Derived.Test.YtghnigbihllnmaaGreatFn24
import Derived.Test.YtghnigbihllnmaaGreatFn25
import Derived.Test.YtghnigbihllnmaaGreatFn26
import Derived.Test.YtghnigbihllnmaaGreatFn28
import Derived.Test.YtghnigbihllnmaaGreatFn30
set_option linter.unusedVariables false
set_option linter.unusedSimpArgs false
namespace Go.Proofs.YtghnigbihllnmaaGreat.Fn
open Go Hl Sp Ty
set_option maxRecDepth 100000

theorem bytesR_at (pre x post : List UInt8) (n : Int) (h : (x.length : Int) = n) : bytesR (pre ++ (x ++ post)) pre.length n = (x, (pre.length : Int) + n, 0) := by
  unfold bytesR
  rw [if_pos (by simp; omega), drop_pre, show n.toNat = x.length by omega, List.take_left]
theorem keyR_key {k : Int} (h0 : 0 ≤ k) (h1 : k < 18446744073709551616) (hc : clsZ k ≠ 0) : keyR (numB k 8 false) = (k, true) := by
  have hrd := numB_8 h0 h1
  unfold keyR
  rw [if_pos ⟨numB_length _ _ _, by rw [hrd]; exact hc⟩, hrd]
theorem cTxt_text (pre post : List UInt8) (s : ByteArray) (h : plainB s) : cTxt (pre ++ (textB s ++ post)) (pre.length, false) = (s, ((pre.length : Int) + s.size + 1, false)) := by
  unfold cTxt nextT nextC
  simp only [textR_text pre post s h]
  simp
theorem cKey_key (pre post : List UInt8) {k : Int} (h0 : 0 ≤ k) (h1 : k < 18446744073709551616) (hc : clsZ k ≠ 0) : cKey (pre ++ (numB k 8 false ++ post)) (pre.length, false) = (k, ((pre.length : Int) + 8, false)) := by
  unfold cKey cByt nextB nextC
  simp only [bytesR_at pre (numB k 8 false) post 8 (by rw [numB_length]; rfl)]
  simp [keyR_key h0 h1 hc]
def rKey (b : List UInt8) (s : Int × Bool) : Int × (Int × Bool) := ((keyR (rByt b 8 s).1).1, (rByt b 8 s).2)
theorem rKey_key (pre post : List UInt8) {k : Int} (h0 : 0 ≤ k) (h1 : k < 18446744073709551616) (hc : clsZ k ≠ 0) : rKey (pre ++ (numB k 8 false ++ post)) (pre.length, false) = (k, ((pre.length : Int) + 8, false)) := by
  unfold rKey rByt nextC
  simp only [bytesR_at pre (numB k 8 false) post 8 (by rw [numB_length]; rfl)]
  simp [keyR_key h0 h1 hc]
theorem nameB_plain {s : ByteArray} (h : nameB s = true) : plainB s := by
  unfold nameB at h
  simp only [Bool.and_eq_true] at h
  exact printB_plain h.2
theorem instB_plain {s : ByteArray} (h : instB s = true) : plainB s := printB_plain h
theorem cKey_ok {b : List UInt8} {s : Int × Bool} (h0 : 0 ≤ s.1) (h1 : s.1 ≤ b.length) : 0 ≤ (cKey b s).2.1 ∧ (cKey b s).2.1 ≤ b.length := cByt_ok h0 h1 (by decide)
theorem rKey_ok {b : List UInt8} {s : Int × Bool} (h0 : 0 ≤ s.1) (h1 : s.1 ≤ b.length) : 0 ≤ (rKey b s).2.1 ∧ (rKey b s).2.1 ≤ b.length := rByt_ok h0 h1 (by decide)
theorem rByt_len {b : List UInt8} {n : Int} {s : Int × Bool} {m : Nat} (h : b.length ≤ m) : (rByt b n s).1.length ≤ m := by
  unfold rByt bytesR
  split
  · simp; omega
  · exact Nat.zero_le _
theorem rTxt_small (b : List UInt8) (s : Int × Bool) : (rTxt b s).1.size ≤ 39 := textR_small _ _
/-- What is read of a ticket. -/
def tkR (b : List UInt8) (lt : Bool) (s0 : Int × Bool) : (ByteArray × ByteArray × ByteArray) × Int × Int × Int × Int × ByteArray × ByteArray × Bool :=
  let p := cPrin b s0
  let ad := cNum b 4 lt p.2
  let k := cKey b ad.2
  let li := cNum b 1 false k.2
  let is := cNum b 4 lt li.2
  let s := cTxt b is.2
  let t := cTxt b s.2
  (p.1, ad.1, k.1, li.1, is.1, s.1, t.1, t.2.2)
theorem tkR_tk (lt : Bool) (n i r : ByteArray) (ad k li is : Int) (s t : ByteArray) (h : TkOk n i r ad k li is s t) (post : List UInt8) : tkR (tkPre lt n i r ad k li is s t ++ post) lt (1, false) = ((n, i, r), ad, k, li, is, s, t, false) := by
  obtain ⟨h1, h2, h3, h4, ⟨h5, h5'⟩, ⟨h6, h6'⟩, ⟨h7, h7'⟩, h8, h8'⟩ := h
  obtain ⟨b, hb⟩ : ∃ b, b = tkPre lt n i r ad k li is s t ++ post := ⟨_, rfl⟩
  obtain ⟨f, hf⟩ : ∃ f, f = u8 (flagZ lt) := ⟨_, rfl⟩
  have hu : ((u8 li).toNat : Int) = li := by rw [u8_toNat]; omega
  obtain ⟨P0, hP0⟩ : ∃ P, P = prinB n i r := ⟨_, rfl⟩
  obtain ⟨A, hA⟩ : ∃ P, P = numB ad 4 lt := ⟨_, rfl⟩
  obtain ⟨KB, hKB⟩ : ∃ P, P = numB k 8 false := ⟨_, rfl⟩
  obtain ⟨I, hI⟩ : ∃ P, P = numB is 4 lt := ⟨_, rfl⟩
  have lA : A.length = 4 := by rw [hA, numB_length]
  have lK : KB.length = 8 := by rw [hKB, numB_length]
  have lI : I.length = 4 := by rw [hI, numB_length]
  have q1 : b = [f] ++ (P0 ++ (A ++ (KB ++ (u8 li :: (I ++ (textB s ++ (textB t ++ post))))))) := by rw [hb, hf, hP0, hA, hKB, hI]; simp [tkPre]
  have q2 : b = ([f] ++ P0) ++ (A ++ (KB ++ (u8 li :: (I ++ (textB s ++ (textB t ++ post)))))) := by rw [q1]; simp
  have q3 : b = ([f] ++ P0 ++ A) ++ (KB ++ (u8 li :: (I ++ (textB s ++ (textB t ++ post))))) := by rw [q1]; simp
  have q4 : b = ([f] ++ P0 ++ A ++ KB) ++ (u8 li :: (I ++ (textB s ++ (textB t ++ post)))) := by rw [q1]; simp
  have q5 : b = ([f] ++ P0 ++ A ++ KB ++ [u8 li]) ++ (I ++ (textB s ++ (textB t ++ post))) := by rw [q1]; simp
  have q6 : b = ([f] ++ P0 ++ A ++ KB ++ [u8 li] ++ I) ++ (textB s ++ (textB t ++ post)) := by rw [q1]; simp
  have q7 : b = ([f] ++ P0 ++ A ++ KB ++ [u8 li] ++ I ++ textB s) ++ (textB t ++ post) := by rw [q1]; simp
  have r1 := cPrin_prin [f] (A ++ (KB ++ (u8 li :: (I ++ (textB s ++ (textB t ++ post)))))) n i r h1
  have r2 := cNum_num ([f] ++ P0) (KB ++ (u8 li :: (I ++ (textB s ++ (textB t ++ post))))) ad 4 lt h6 (by omega)
  have r3 := cKey_key ([f] ++ P0 ++ A) (u8 li :: (I ++ (textB s ++ (textB t ++ post)))) h5 h5' (by rw [h4]; decide)
  have r4 := cNum_one ([f] ++ P0 ++ A ++ KB) (I ++ (textB s ++ (textB t ++ post))) (u8 li)
  have r5 := cNum_num ([f] ++ P0 ++ A ++ KB ++ [u8 li]) (textB s ++ (textB t ++ post)) is 4 lt h8 (by omega)
  have r6 := cTxt_text ([f] ++ P0 ++ A ++ KB ++ [u8 li] ++ I) (textB t ++ post) s (nameB_plain h2)
  have r7 := cTxt_text ([f] ++ P0 ++ A ++ KB ++ [u8 li] ++ I ++ textB s) post t (instB_plain h3)
  rw [← hP0, ← q1] at r1; rw [← hA, ← q2] at r2; rw [← hKB, ← q3] at r3; rw [← q4] at r4; rw [← hI, ← q5] at r5; rw [← q6] at r6; rw [← q7] at r7
  have l1 : (([f] : List UInt8).length : Int) = 1 := rfl
  have l2 : (([f] ++ P0).length : Int) = 1 + P0.length := by simp; omega
  have l3 : (([f] ++ P0 ++ A).length : Int) = 1 + P0.length + (4 : Nat) := by simp [lA]; omega
  have l4 : (([f] ++ P0 ++ A ++ KB).length : Int) = 1 + P0.length + (4 : Nat) + 8 := by simp [lA, lK]; omega
  have l5 : (([f] ++ P0 ++ A ++ KB ++ [u8 li]).length : Int) = 1 + P0.length + (4 : Nat) + 8 + 1 := by simp [lA, lK]; omega
  have l6 : (([f] ++ P0 ++ A ++ KB ++ [u8 li] ++ I).length : Int) = 1 + P0.length + (4 : Nat) + 8 + 1 + (4 : Nat) := by simp [lA, lK, lI]; omega
  have l7 : (([f] ++ P0 ++ A ++ KB ++ [u8 li] ++ I ++ textB s).length : Int) = 1 + P0.length + (4 : Nat) + 8 + 1 + (4 : Nat) + s.size + 1 := by simp [lA, lK, lI, textB_length]; omega
  rw [l1] at r1; rw [l2] at r2; rw [l3] at r3; rw [l4] at r4; rw [l5] at r5; rw [l6] at r6; rw [l7] at r7
  rw [← hb]
  unfold tkR
  simp only [r1, r2, r3, r4, r5, r6, r7, hu]
/-- What is read of a ticket. -/
def tkRr (b : List UInt8) (lt : Bool) (s0 : Int × Bool) : (ByteArray × ByteArray × ByteArray) × Int × Int × Int × Int × ByteArray × ByteArray × Bool :=
  let p := rPrin b s0
  let ad := rNum b 4 lt p.2
  let k := rKey b ad.2
  let li := rNum b 1 false k.2
  let is := rNum b 4 lt li.2
  let s := rTxt b is.2
  let t := rTxt b s.2
  (p.1, ad.1, k.1, li.1, is.1, s.1, t.1, t.2.2)
theorem tkRr_tk (lt : Bool) (n i r : ByteArray) (ad k li is : Int) (s t : ByteArray) (h : TkOk n i r ad k li is s t) (post : List UInt8) : tkRr (tkPre lt n i r ad k li is s t ++ post) lt (1, false) = ((n, i, r), ad, k, li, is, s, t, false) := by
  obtain ⟨h1, h2, h3, h4, ⟨h5, h5'⟩, ⟨h6, h6'⟩, ⟨h7, h7'⟩, h8, h8'⟩ := h
  obtain ⟨b, hb⟩ : ∃ b, b = tkPre lt n i r ad k li is s t ++ post := ⟨_, rfl⟩
  obtain ⟨f, hf⟩ : ∃ f, f = u8 (flagZ lt) := ⟨_, rfl⟩
  have hu : ((u8 li).toNat : Int) = li := by rw [u8_toNat]; omega
  obtain ⟨P0, hP0⟩ : ∃ P, P = prinB n i r := ⟨_, rfl⟩
  obtain ⟨A, hA⟩ : ∃ P, P = numB ad 4 lt := ⟨_, rfl⟩
  obtain ⟨KB, hKB⟩ : ∃ P, P = numB k 8 false := ⟨_, rfl⟩
  obtain ⟨I, hI⟩ : ∃ P, P = numB is 4 lt := ⟨_, rfl⟩
  have lA : A.length = 4 := by rw [hA, numB_length]
  have lK : KB.length = 8 := by rw [hKB, numB_length]
  have lI : I.length = 4 := by rw [hI, numB_length]
  have q1 : b = [f] ++ (P0 ++ (A ++ (KB ++ (u8 li :: (I ++ (textB s ++ (textB t ++ post))))))) := by rw [hb, hf, hP0, hA, hKB, hI]; simp [tkPre]
  have q2 : b = ([f] ++ P0) ++ (A ++ (KB ++ (u8 li :: (I ++ (textB s ++ (textB t ++ post)))))) := by rw [q1]; simp
  have q3 : b = ([f] ++ P0 ++ A) ++ (KB ++ (u8 li :: (I ++ (textB s ++ (textB t ++ post))))) := by rw [q1]; simp
  have q4 : b = ([f] ++ P0 ++ A ++ KB) ++ (u8 li :: (I ++ (textB s ++ (textB t ++ post)))) := by rw [q1]; simp
  have q5 : b = ([f] ++ P0 ++ A ++ KB ++ [u8 li]) ++ (I ++ (textB s ++ (textB t ++ post))) := by rw [q1]; simp
  have q6 : b = ([f] ++ P0 ++ A ++ KB ++ [u8 li] ++ I) ++ (textB s ++ (textB t ++ post)) := by rw [q1]; simp
  have q7 : b = ([f] ++ P0 ++ A ++ KB ++ [u8 li] ++ I ++ textB s) ++ (textB t ++ post) := by rw [q1]; simp
  have r1 := rPrin_prin [f] (A ++ (KB ++ (u8 li :: (I ++ (textB s ++ (textB t ++ post)))))) n i r h1
  have r2 := rNum_num ([f] ++ P0) (KB ++ (u8 li :: (I ++ (textB s ++ (textB t ++ post))))) ad 4 lt h6 (by omega)
  have r3 := rKey_key ([f] ++ P0 ++ A) (u8 li :: (I ++ (textB s ++ (textB t ++ post)))) h5 h5' (by rw [h4]; decide)
  have r4 := rNum_one ([f] ++ P0 ++ A ++ KB) (I ++ (textB s ++ (textB t ++ post))) (u8 li)
  have r5 := rNum_num ([f] ++ P0 ++ A ++ KB ++ [u8 li]) (textB s ++ (textB t ++ post)) is 4 lt h8 (by omega)
  have r6 := rTxt_text ([f] ++ P0 ++ A ++ KB ++ [u8 li] ++ I) (textB t ++ post) s (nameB_plain h2)
  have r7 := rTxt_text ([f] ++ P0 ++ A ++ KB ++ [u8 li] ++ I ++ textB s) post t (instB_plain h3)
  rw [← hP0, ← q1] at r1; rw [← hA, ← q2] at r2; rw [← hKB, ← q3] at r3; rw [← q4] at r4; rw [← hI, ← q5] at r5; rw [← q6] at r6; rw [← q7] at r7
  have l1 : (([f] : List UInt8).length : Int) = 1 := rfl
  have l2 : (([f] ++ P0).length : Int) = 1 + P0.length := by simp; omega
  have l3 : (([f] ++ P0 ++ A).length : Int) = 1 + P0.length + (4 : Nat) := by simp [lA]; omega
  have l4 : (([f] ++ P0 ++ A ++ KB).length : Int) = 1 + P0.length + (4 : Nat) + 8 := by simp [lA, lK]; omega
  have l5 : (([f] ++ P0 ++ A ++ KB ++ [u8 li]).length : Int) = 1 + P0.length + (4 : Nat) + 8 + 1 := by simp [lA, lK]; omega
  have l6 : (([f] ++ P0 ++ A ++ KB ++ [u8 li] ++ I).length : Int) = 1 + P0.length + (4 : Nat) + 8 + 1 + (4 : Nat) := by simp [lA, lK, lI]; omega
  have l7 : (([f] ++ P0 ++ A ++ KB ++ [u8 li] ++ I ++ textB s).length : Int) = 1 + P0.length + (4 : Nat) + 8 + 1 + (4 : Nat) + s.size + 1 := by simp [lA, lK, lI, textB_length]; omega
  rw [l1] at r1; rw [l2] at r2; rw [l3] at r3; rw [l4] at r4; rw [l5] at r5; rw [l6] at r6; rw [l7] at r7
  rw [← hb]
  unfold tkRr
  simp only [r1, r2, r3, r4, r5, r6, r7, hu]
theorem tkChk_ok {n i r : ByteArray} {ad k li is : Int} {s t : ByteArray} (h : tkChk n i r ad k li is s t = 0) (hk : 0 ≤ k ∧ k < 18446744073709551616) : TkOk n i r ad k li is s t := by
  unfold tkChk at h
  split at h
  · cases h
  · rename_i h1
    split at h
    · cases h
    · rename_i h2
      split at h
      · cases h
      · rename_i h3
        have h1 : tkNames n i r s t = true := by simpa using h1
        unfold tkNames at h1
        simp only [Bool.and_eq_true] at h1
        exact ⟨h1.1.1, h1.1.2, h1.2, by simpa using h2, hk, by omega, by omega, by omega, by omega⟩
/-- These bytes are those of a ticket. -/
def TkIs (b : List UInt8) (lt : Bool) (n i r : ByteArray) (ad k li is : Int) (s t : ByteArray) : Prop := TkOk n i r ad k li is s t ∧ tkB lt n i r ad k li is s t = b
def errT (b : List UInt8) : Int := if (b.length : Int) > 0 ∧ ((b.getD 0 0).toNat : Int) > 1 then 7 else 100
def tkZ : AV := ticketA false ⟨#[]⟩ ⟨#[]⟩ ⟨#[]⟩ 0 0 0 0 ⟨#[]⟩ ⟨#[]⟩
/-- What Decode answers. -/
def DecT (b : List UInt8) (d : AV) : Prop :=
  (∃ lt n i r ad k li is s t, TkIs b lt n i r ad k li is s t ∧ d = .tup [ticketA lt n i r ad k li is s t, .raw (.int .i64 0)]) ∨
  ((∀ lt n i r ad k li is s t, ¬ TkIs b lt n i r ad k li is s t) ∧ d = .tup [tkZ, .raw (.int .i64 (errT b))])
theorem tkB_flag (lt : Bool) (n i r : ByteArray) (ad k li is : Int) (s t : ByteArray) : (tkB lt n i r ad k li is s t).getD 0 0 = u8 (flagZ lt) ∧ 0 < (tkB lt n i r ad k li is s t).length := by
  constructor
  · simp [tkB, padB, tkPre]
  · simp [tkB, padB, tkPre]
theorem flag_dec (lt : Bool) : decide (((u8 (flagZ lt)).toNat : Int) = 1) = lt ∧ ¬ ((u8 (flagZ lt)).toNat : Int) > 1 := by cases lt <;> decide
theorem TkIs.lt_eq {b : List UInt8} {lt : Bool} {n i r : ByteArray} {ad k li is : Int} {s t : ByteArray} (h : TkIs b lt n i r ad k li is s t) : decide (((b.getD 0 0).toNat : Int) = 1) = lt ∧ ¬ ((b.getD 0 0).toNat : Int) > 1 ∧ 0 < b.length := by
  obtain ⟨_, rfl⟩ := h
  obtain ⟨h1, h2⟩ := tkB_flag lt n i r ad k li is s t
  rw [h1]
  exact ⟨(flag_dec lt).1, (flag_dec lt).2, h2⟩
theorem TkIs.read {b : List UInt8} {lt : Bool} {n i r : ByteArray} {ad k li is : Int} {s t : ByteArray} (h : TkIs b lt n i r ad k li is s t) : tkR b lt (1, false) = ((n, i, r), ad, k, li, is, s, t, false) := by
  obtain ⟨h1, rfl⟩ := h
  exact tkR_tk lt n i r ad k li is s t h1 _
theorem TkIs.rread {b : List UInt8} {lt : Bool} {n i r : ByteArray} {ad k li is : Int} {s t : ByteArray} (h : TkIs b lt n i r ad k li is s t) : tkRr b lt (1, false) = ((n, i, r), ad, k, li, is, s, t, false) := by
  obtain ⟨h1, rfl⟩ := h
  exact tkRr_tk lt n i r ad k li is s t h1 _
theorem TkIs.inj {b : List UInt8} {lt lt' : Bool} {n i r n' i' r' : ByteArray} {ad k li is ad' k' li' is' : Int} {s t s' t' : ByteArray} (h : TkIs b lt n i r ad k li is s t) (h' : TkIs b lt' n' i' r' ad' k' li' is' s' t') :
    lt = lt' ∧ n = n' ∧ i = i' ∧ r = r' ∧ ad = ad' ∧ k = k' ∧ li = li' ∧ is = is' ∧ s = s' ∧ t = t' := by
  have e := h.lt_eq.1.symm.trans h'.lt_eq.1
  subst e
  have := h.read.symm.trans h'.read
  simp only [Prod.mk.injEq] at this
  obtain ⟨⟨a, b, c⟩, d, e, f, g, h, i, _⟩ := this
  exact ⟨rfl, a, b, c, d, e, f, g, h, i⟩
theorem DecT.unique {b : List UInt8} {d d' : AV} (h : DecT b d) (h' : DecT b d') : d = d' := by
  rcases h with ⟨lt, n, i, r, ad, k, li, is, s, t, h1, rfl⟩ | ⟨h1, rfl⟩
  · rcases h' with ⟨lt', n', i', r', ad', k', li', is', s', t', h2, rfl⟩ | ⟨h2, rfl⟩
    · obtain ⟨rfl, rfl, rfl, rfl, rfl, rfl, rfl, rfl, rfl, rfl⟩ := h1.inj h2
      rfl
    · exact absurd h1 (h2 _ _ _ _ _ _ _ _ _ _)
  · rcases h' with ⟨lt', n', i', r', ad', k', li', is', s', t', h2, rfl⟩ | ⟨h2, rfl⟩
    · exact absurd h2 (h1 _ _ _ _ _ _ _ _ _ _)
    · rfl
theorem DecT.form {b : List UInt8} {d : AV} (h : DecT b d) : ∃ lt n i r ad k li is s t e, d = .tup [ticketA lt n i r ad k li is s t, .raw (.int .i64 e)] := by
  rcases h with ⟨lt, n, i, r, ad, k, li, is, s, t, _, rfl⟩ | ⟨_, rfl⟩
  · exact ⟨_, _, _, _, _, _, _, _, _, _, _, rfl⟩
  · exact ⟨_, _, _, _, _, _, _, _, _, _, _, rfl⟩
end Go.Proofs.YtghnigbihllnmaaGreat.Fn
