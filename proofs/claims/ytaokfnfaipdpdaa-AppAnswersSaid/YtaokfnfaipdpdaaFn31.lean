/- Tickets are decoded. -/
import Derived.Test.YtaokfnfaipdpdaaHlC
import Derived.Test.YtaokfnfaipdpdaaSp1
import Derived.Test.YtaokfnfaipdpdaaTy
import Derived.Test.YtaokfnfaipdpdaaFn1
import Derived.Test.YtaokfnfaipdpdaaFn2
import Derived.Test.YtaokfnfaipdpdaaFn3
import Derived.Test.YtaokfnfaipdpdaaFn5
import Derived.Test.YtaokfnfaipdpdaaFn8
import Derived.Test.YtaokfnfaipdpdaaFn9
import Derived.Test.YtaokfnfaipdpdaaFn13
import Derived.Test.YtaokfnfaipdpdaaFn15
import Derived.Test.YtaokfnfaipdpdaaFn16
import Derived.Test.YtaokfnfaipdpdaaFn17
import Derived.Test.YtaokfnfaipdpdaaFn19
import Derived.Test.YtaokfnfaipdpdaaFn21
import Derived.Test.YtaokfnfaipdpdaaFn24
import Derived.Test.YtaokfnfaipdpdaaFn25
import Derived.Test.YtaokfnfaipdpdaaFn26
import Derived.Test.YtaokfnfaipdpdaaFn28
import Derived.Test.YtaokfnfaipdpdaaFn30
set_option linter.unusedVariables false
set_option linter.unusedSimpArgs false
namespace Go.Proofs.Ytaokfnfaipdpdaa.Fn
open Go Hl Sp Ty
set_option maxRecDepth 100000

theorem bytesR_at (pre x post : List UInt8) (n : Int) (h : (x.length : Int) = n) : bytesR (pre ++ (x ++ post)) pre.length n = (x, (pre.length : Int) + n, 0) := by
  unfold bytesR
  rw [if_pos (by simp; omega), drop_pre, show n.toNat = x.length by omega, List.take_left]
theorem keyR_key {k : Int} (h0 : 0 ≤ k) (h1 : k < 18446744073709551616) (hc : clsZ k ≠ 0) : keyR (numB k 8 false) = (k, true) := by
  have hrd := numB_8 h0 h1
  unfold keyR
  rw [if_pos ⟨numB_length _ _ _, by rw [hrd]; exact hc⟩, hrd]
theorem cTxt_text (pre post : List UInt8) (s : ByteArray) (h : plainB s) : cTxt (pre ++ (textB s ++ post)) (pre.length, false) = (s, ((pre.length : Int) + s.size + 1, false)) := by
  unfold cTxt nextT nextC
  simp only [textR_text pre post s h]
  simp
theorem cKey_key (pre post : List UInt8) {k : Int} (h0 : 0 ≤ k) (h1 : k < 18446744073709551616) (hc : clsZ k ≠ 0) : cKey (pre ++ (numB k 8 false ++ post)) (pre.length, false) = (k, ((pre.length : Int) + 8, false)) := by
  unfold cKey cByt nextB nextC
  simp only [bytesR_at pre (numB k 8 false) post 8 (by rw [numB_length]; rfl)]
  simp [keyR_key h0 h1 hc]
def rKey (b : List UInt8) (s : Int × Bool) : Int × (Int × Bool) := ((keyR (rByt b 8 s).1).1, (rByt b 8 s).2)
theorem rKey_key (pre post : List UInt8) {k : Int} (h0 : 0 ≤ k) (h1 : k < 18446744073709551616) (hc : clsZ k ≠ 0) : rKey (pre ++ (numB k 8 false ++ post)) (pre.length, false) = (k, ((pre.length : Int) + 8, false)) := by
  unfold rKey rByt nextC
  simp only [bytesR_at pre (numB k 8 false) post 8 (by rw [numB_length]; rfl)]
  simp [keyR_key h0 h1 hc]
theorem nameB_plain {s : ByteArray} (h : nameB s = true) : plainB s := by
  unfold nameB at h
  simp only [Bool.and_eq_true] at h
  exact printB_plain h.2
theorem instB_plain {s : ByteArray} (h : instB s = true) : plainB s := printB_plain h
theorem cKey_ok {b : List UInt8} {s : Int × Bool} (h0 : 0 ≤ s.1) (h1 : s.1 ≤ b.length) : 0 ≤ (cKey b s).2.1 ∧ (cKey b s).2.1 ≤ b.length := cByt_ok h0 h1 (by decide)
theorem rKey_ok {b : List UInt8} {s : Int × Bool} (h0 : 0 ≤ s.1) (h1 : s.1 ≤ b.length) : 0 ≤ (rKey b s).2.1 ∧ (rKey b s).2.1 ≤ b.length := rByt_ok h0 h1 (by decide)
theorem rByt_len {b : List UInt8} {n : Int} {s : Int × Bool} {m : Nat} (h : b.length ≤ m) : (rByt b n s).1.length ≤ m := by
  unfold rByt bytesR
  split
  · simp; omega
  · exact Nat.zero_le _
theorem rTxt_small (b : List UInt8) (s : Int × Bool) : (rTxt b s).1.size ≤ 39 := textR_small _ _
/-- What is read of a ticket. -/
def tkR (b : List UInt8) (lt : Bool) (s0 : Int × Bool) : (ByteArray × ByteArray × ByteArray) × Int × Int × Int × Int × ByteArray × ByteArray × Bool :=
  let p := cPrin b s0
  let ad := cNum b 4 lt p.2
  let k := cKey b ad.2
  let li := cNum b 1 false k.2
  let is := cNum b 4 lt li.2
  let s := cTxt b is.2
  let t := cTxt b s.2
  (p.1, ad.1, k.1, li.1, is.1, s.1, t.1, t.2.2)
theorem tkR_tk (lt : Bool) (n i r : ByteArray) (ad k li is : Int) (s t : ByteArray) (h : TkOk n i r ad k li is s t) (post : List UInt8) : tkR (tkPre lt n i r ad k li is s t ++ post) lt (1, false) = ((n, i, r), ad, k, li, is, s, t, false) := by
  obtain ⟨h1, h2, h3, h4, ⟨h5, h5'⟩, ⟨h6, h6'⟩, ⟨h7, h7'⟩, h8, h8'⟩ := h
  obtain ⟨b, hb⟩ : ∃ b, b = tkPre lt n i r ad k li is s t ++ post := ⟨_, rfl⟩
  obtain ⟨f, hf⟩ : ∃ f, f = u8 (flagZ lt) := ⟨_, rfl⟩
  have hu : ((u8 li).toNat : Int) = li := by rw [u8_toNat]; omega
  obtain ⟨P0, hP0⟩ : ∃ P, P = prinB n i r := ⟨_, rfl⟩
  obtain ⟨A, hA⟩ : ∃ P, P = numB ad 4 lt := ⟨_, rfl⟩
  obtain ⟨KB, hKB⟩ : ∃ P, P = numB k 8 false := ⟨_, rfl⟩
  obtain ⟨I, hI⟩ : ∃ P, P = numB is 4 lt := ⟨_, rfl⟩
  have lA : A.length = 4 := by rw [hA, numB_length]
  have lK : KB.length = 8 := by rw [hKB, numB_length]
  have lI : I.length = 4 := by rw [hI, numB_length]
  have q1 : b = [f] ++ (P0 ++ (A ++ (KB ++ (u8 li :: (I ++ (textB s ++ (textB t ++ post))))))) := by rw [hb, hf, hP0, hA, hKB, hI]; simp [tkPre]
  have q2 : b = ([f] ++ P0) ++ (A ++ (KB ++ (u8 li :: (I ++ (textB s ++ (textB t ++ post)))))) := by rw [q1]; simp
  have q3 : b = ([f] ++ P0 ++ A) ++ (KB ++ (u8 li :: (I ++ (textB s ++ (textB t ++ post))))) := by rw [q1]; simp
  have q4 : b = ([f] ++ P0 ++ A ++ KB) ++ (u8 li :: (I ++ (textB s ++ (textB t ++ post)))) := by rw [q1]; simp
  have q5 : b = ([f] ++ P0 ++ A ++ KB ++ [u8 li]) ++ (I ++ (textB s ++ (textB t ++ post))) := by rw [q1]; simp
  have q6 : b = ([f] ++ P0 ++ A ++ KB ++ [u8 li] ++ I) ++ (textB s ++ (textB t ++ post)) := by rw [q1]; simp
  have q7 : b = ([f] ++ P0 ++ A ++ KB ++ [u8 li] ++ I ++ textB s) ++ (textB t ++ post) := by rw [q1]; simp
  have r1 := cPrin_prin [f] (A ++ (KB ++ (u8 li :: (I ++ (textB s ++ (textB t ++ post)))))) n i r h1
  have r2 := cNum_num ([f] ++ P0) (KB ++ (u8 li :: (I ++ (textB s ++ (textB t ++ post))))) ad 4 lt h6 (by omega)
  have r3 := cKey_key ([f] ++ P0 ++ A) (u8 li :: (I ++ (textB s ++ (textB t ++ post)))) h5 h5' (by rw [h4]; decide)
  have r4 := cNum_one ([f] ++ P0 ++ A ++ KB) (I ++ (textB s ++ (textB t ++ post))) (u8 li)
  have r5 := cNum_num ([f] ++ P0 ++ A ++ KB ++ [u8 li]) (textB s ++ (textB t ++ post)) is 4 lt h8 (by omega)
  have r6 := cTxt_text ([f] ++ P0 ++ A ++ KB ++ [u8 li] ++ I) (textB t ++ post) s (nameB_plain h2)
  have r7 := cTxt_text ([f] ++ P0 ++ A ++ KB ++ [u8 li] ++ I ++ textB s) post t (instB_plain h3)
  rw [← hP0, ← q1] at r1; rw [← hA, ← q2] at r2; rw [← hKB, ← q3] at r3; rw [← q4] at r4; rw [← hI, ← q5] at r5; rw [← q6] at r6; rw [← q7] at r7
  have l1 : (([f] : List UInt8).length : Int) = 1 := rfl
  have l2 : (([f] ++ P0).length : Int) = 1 + P0.length := by simp; omega
  have l3 : (([f] ++ P0 ++ A).length : Int) = 1 + P0.length + (4 : Nat) := by simp [lA]; omega
  have l4 : (([f] ++ P0 ++ A ++ KB).length : Int) = 1 + P0.length + (4 : Nat) + 8 := by simp [lA, lK]; omega
  have l5 : (([f] ++ P0 ++ A ++ KB ++ [u8 li]).length : Int) = 1 + P0.length + (4 : Nat) + 8 + 1 := by simp [lA, lK]; omega
  have l6 : (([f] ++ P0 ++ A ++ KB ++ [u8 li] ++ I).length : Int) = 1 + P0.length + (4 : Nat) + 8 + 1 + (4 : Nat) := by simp [lA, lK, lI]; omega
  have l7 : (([f] ++ P0 ++ A ++ KB ++ [u8 li] ++ I ++ textB s).length : Int) = 1 + P0.length + (4 : Nat) + 8 + 1 + (4 : Nat) + s.size + 1 := by simp [lA, lK, lI, textB_length]; omega
  rw [l1] at r1; rw [l2] at r2; rw [l3] at r3; rw [l4] at r4; rw [l5] at r5; rw [l6] at r6; rw [l7] at r7
  rw [← hb]
  unfold tkR
  simp only [r1, r2, r3, r4, r5, r6, r7, hu]
/-- What is read of a ticket. -/
def tkRr (b : List UInt8) (lt : Bool) (s0 : Int × Bool) : (ByteArray × ByteArray × ByteArray) × Int × Int × Int × Int × ByteArray × ByteArray × Bool :=
  let p := rPrin b s0
  let ad := rNum b 4 lt p.2
  let k := rKey b ad.2
  let li := rNum b 1 false k.2
  let is := rNum b 4 lt li.2
  let s := rTxt b is.2
  let t := rTxt b s.2
  (p.1, ad.1, k.1, li.1, is.1, s.1, t.1, t.2.2)
theorem tkRr_tk (lt : Bool) (n i r : ByteArray) (ad k li is : Int) (s t : ByteArray) (h : TkOk n i r ad k li is s t) (post : List UInt8) : tkRr (tkPre lt n i r ad k li is s t ++ post) lt (1, false) = ((n, i, r), ad, k, li, is, s, t, false) := by
  obtain ⟨h1, h2, h3, h4, ⟨h5, h5'⟩, ⟨h6, h6'⟩, ⟨h7, h7'⟩, h8, h8'⟩ := h
  obtain ⟨b, hb⟩ : ∃ b, b = tkPre lt n i r ad k li is s t ++ post := ⟨_, rfl⟩
  obtain ⟨f, hf⟩ : ∃ f, f = u8 (flagZ lt) := ⟨_, rfl⟩
  have hu : ((u8 li).toNat : Int) = li := by rw [u8_toNat]; omega
  obtain ⟨P0, hP0⟩ : ∃ P, P = prinB n i r := ⟨_, rfl⟩
  obtain ⟨A, hA⟩ : ∃ P, P = numB ad 4 lt := ⟨_, rfl⟩
  obtain ⟨KB, hKB⟩ : ∃ P, P = numB k 8 false := ⟨_, rfl⟩
  obtain ⟨I, hI⟩ : ∃ P, P = numB is 4 lt := ⟨_, rfl⟩
  have lA : A.length = 4 := by rw [hA, numB_length]
  have lK : KB.length = 8 := by rw [hKB, numB_length]
  have lI : I.length = 4 := by rw [hI, numB_length]
  have q1 : b = [f] ++ (P0 ++ (A ++ (KB ++ (u8 li :: (I ++ (textB s ++ (textB t ++ post))))))) := by rw [hb, hf, hP0, hA, hKB, hI]; simp [tkPre]
  have q2 : b = ([f] ++ P0) ++ (A ++ (KB ++ (u8 li :: (I ++ (textB s ++ (textB t ++ post)))))) := by rw [q1]; simp
  have q3 : b = ([f] ++ P0 ++ A) ++ (KB ++ (u8 li :: (I ++ (textB s ++ (textB t ++ post))))) := by rw [q1]; simp
  have q4 : b = ([f] ++ P0 ++ A ++ KB) ++ (u8 li :: (I ++ (textB s ++ (textB t ++ post)))) := by rw [q1]; simp
  have q5 : b = ([f] ++ P0 ++ A ++ KB ++ [u8 li]) ++ (I ++ (textB s ++ (textB t ++ post))) := by rw [q1]; simp
  have q6 : b = ([f] ++ P0 ++ A ++ KB ++ [u8 li] ++ I) ++ (textB s ++ (textB t ++ post)) := by rw [q1]; simp
  have q7 : b = ([f] ++ P0 ++ A ++ KB ++ [u8 li] ++ I ++ textB s) ++ (textB t ++ post) := by rw [q1]; simp
  have r1 := rPrin_prin [f] (A ++ (KB ++ (u8 li :: (I ++ (textB s ++ (textB t ++ post)))))) n i r h1
  have r2 := rNum_num ([f] ++ P0) (KB ++ (u8 li :: (I ++ (textB s ++ (textB t ++ post))))) ad 4 lt h6 (by omega)
  have r3 := rKey_key ([f] ++ P0 ++ A) (u8 li :: (I ++ (textB s ++ (textB t ++ post)))) h5 h5' (by rw [h4]; decide)
  have r4 := rNum_one ([f] ++ P0 ++ A ++ KB) (I ++ (textB s ++ (textB t ++ post))) (u8 li)
  have r5 := rNum_num ([f] ++ P0 ++ A ++ KB ++ [u8 li]) (textB s ++ (textB t ++ post)) is 4 lt h8 (by omega)
  have r6 := rTxt_text ([f] ++ P0 ++ A ++ KB ++ [u8 li] ++ I) (textB t ++ post) s (nameB_plain h2)
  have r7 := rTxt_text ([f] ++ P0 ++ A ++ KB ++ [u8 li] ++ I ++ textB s) post t (instB_plain h3)
  rw [← hP0, ← q1] at r1; rw [← hA, ← q2] at r2; rw [← hKB, ← q3] at r3; rw [← q4] at r4; rw [← hI, ← q5] at r5; rw [← q6] at r6; rw [← q7] at r7
  have l1 : (([f] : List UInt8).length : Int) = 1 := rfl
  have l2 : (([f] ++ P0).length : Int) = 1 + P0.length := by simp; omega
  have l3 : (([f] ++ P0 ++ A).length : Int) = 1 + P0.length + (4 : Nat) := by simp [lA]; omega
  have l4 : (([f] ++ P0 ++ A ++ KB).length : Int) = 1 + P0.length + (4 : Nat) + 8 := by simp [lA, lK]; omega
  have l5 : (([f] ++ P0 ++ A ++ KB ++ [u8 li]).length : Int) = 1 + P0.length + (4 : Nat) + 8 + 1 := by simp [lA, lK]; omega
  have l6 : (([f] ++ P0 ++ A ++ KB ++ [u8 li] ++ I).length : Int) = 1 + P0.length + (4 : Nat) + 8 + 1 + (4 : Nat) := by simp [lA, lK, lI]; omega
  have l7 : (([f] ++ P0 ++ A ++ KB ++ [u8 li] ++ I ++ textB s).length : Int) = 1 + P0.length + (4 : Nat) + 8 + 1 + (4 : Nat) + s.size + 1 := by simp [lA, lK, lI, textB_length]; omega
  rw [l1] at r1; rw [l2] at r2; rw [l3] at r3; rw [l4] at r4; rw [l5] at r5; rw [l6] at r6; rw [l7] at r7
  rw [← hb]
  unfold tkRr
  simp only [r1, r2, r3, r4, r5, r6, r7, hu]
theorem tkChk_ok {n i r : ByteArray} {ad k li is : Int} {s t : ByteArray} (h : tkChk n i r ad k li is s t = 0) (hk : 0 ≤ k ∧ k < 18446744073709551616) : TkOk n i r ad k li is s t := by
  unfold tkChk at h
  split at h
  · cases h
  · rename_i h1
    split at h
    · cases h
    · rename_i h2
      split at h
      · cases h
      · rename_i h3
        have h1 : tkNames n i r s t = true := by simpa using h1
        unfold tkNames at h1
        simp only [Bool.and_eq_true] at h1
        exact ⟨h1.1.1, h1.1.2, h1.2, by simpa using h2, hk, by omega, by omega, by omega, by omega⟩
/-- These bytes are those of a ticket. -/
def TkIs (b : List UInt8) (lt : Bool) (n i r : ByteArray) (ad k li is : Int) (s t : ByteArray) : Prop := TkOk n i r ad k li is s t ∧ tkB lt n i r ad k li is s t = b
def errT (b : List UInt8) : Int := if (b.length : Int) > 0 ∧ ((b.getD 0 0).toNat : Int) > 1 then 7 else 100
def tkZ : AV := ticketA false ⟨#[]⟩ ⟨#[]⟩ ⟨#[]⟩ 0 0 0 0 ⟨#[]⟩ ⟨#[]⟩
/-- What Decode answers. -/
def DecT (b : List UInt8) (d : AV) : Prop :=
  (∃ lt n i r ad k li is s t, TkIs b lt n i r ad k li is s t ∧ d = .tup [ticketA lt n i r ad k li is s t, .raw (.int .i64 0)]) ∨
  ((∀ lt n i r ad k li is s t, ¬ TkIs b lt n i r ad k li is s t) ∧ d = .tup [tkZ, .raw (.int .i64 (errT b))])
theorem tkB_flag (lt : Bool) (n i r : ByteArray) (ad k li is : Int) (s t : ByteArray) : (tkB lt n i r ad k li is s t).getD 0 0 = u8 (flagZ lt) ∧ 0 < (tkB lt n i r ad k li is s t).length := by
  constructor
  · simp [tkB, padB, tkPre]
  · simp [tkB, padB, tkPre]
theorem flag_dec (lt : Bool) : decide (((u8 (flagZ lt)).toNat : Int) = 1) = lt ∧ ¬ ((u8 (flagZ lt)).toNat : Int) > 1 := by cases lt <;> decide
theorem TkIs.lt_eq {b : List UInt8} {lt : Bool} {n i r : ByteArray} {ad k li is : Int} {s t : ByteArray} (h : TkIs b lt n i r ad k li is s t) : decide (((b.getD 0 0).toNat : Int) = 1) = lt ∧ ¬ ((b.getD 0 0).toNat : Int) > 1 ∧ 0 < b.length := by
  obtain ⟨_, rfl⟩ := h
  obtain ⟨h1, h2⟩ := tkB_flag lt n i r ad k li is s t
  rw [h1]
  exact ⟨(flag_dec lt).1, (flag_dec lt).2, h2⟩
theorem TkIs.read {b : List UInt8} {lt : Bool} {n i r : ByteArray} {ad k li is : Int} {s t : ByteArray} (h : TkIs b lt n i r ad k li is s t) : tkR b lt (1, false) = ((n, i, r), ad, k, li, is, s, t, false) := by
  obtain ⟨h1, rfl⟩ := h
  exact tkR_tk lt n i r ad k li is s t h1 _
theorem TkIs.rread {b : List UInt8} {lt : Bool} {n i r : ByteArray} {ad k li is : Int} {s t : ByteArray} (h : TkIs b lt n i r ad k li is s t) : tkRr b lt (1, false) = ((n, i, r), ad, k, li, is, s, t, false) := by
  obtain ⟨h1, rfl⟩ := h
  exact tkRr_tk lt n i r ad k li is s t h1 _
theorem TkIs.inj {b : List UInt8} {lt lt' : Bool} {n i r n' i' r' : ByteArray} {ad k li is ad' k' li' is' : Int} {s t s' t' : ByteArray} (h : TkIs b lt n i r ad k li is s t) (h' : TkIs b lt' n' i' r' ad' k' li' is' s' t') :
    lt = lt' ∧ n = n' ∧ i = i' ∧ r = r' ∧ ad = ad' ∧ k = k' ∧ li = li' ∧ is = is' ∧ s = s' ∧ t = t' := by
  have e := h.lt_eq.1.symm.trans h'.lt_eq.1
  subst e
  have := h.read.symm.trans h'.read
  simp only [Prod.mk.injEq] at this
  obtain ⟨⟨a, b, c⟩, d, e, f, g, h, i, _⟩ := this
  exact ⟨rfl, a, b, c, d, e, f, g, h, i⟩
theorem DecT.unique {b : List UInt8} {d d' : AV} (h : DecT b d) (h' : DecT b d') : d = d' := by
  rcases h with ⟨lt, n, i, r, ad, k, li, is, s, t, h1, rfl⟩ | ⟨h1, rfl⟩
  · rcases h' with ⟨lt', n', i', r', ad', k', li', is', s', t', h2, rfl⟩ | ⟨h2, rfl⟩
    · obtain ⟨rfl, rfl, rfl, rfl, rfl, rfl, rfl, rfl, rfl, rfl⟩ := h1.inj h2
      rfl
    · exact absurd h1 (h2 _ _ _ _ _ _ _ _ _ _)
  · rcases h' with ⟨lt', n', i', r', ad', k', li', is', s', t', h2, rfl⟩ | ⟨h2, rfl⟩
    · exact absurd h2 (h1 _ _ _ _ _ _ _ _ _ _)
    · rfl
theorem DecT.form {b : List UInt8} {d : AV} (h : DecT b d) : ∃ lt n i r ad k li is s t e, d = .tup [ticketA lt n i r ad k li is s t, .raw (.int .i64 e)] := by
  rcases h with ⟨lt, n, i, r, ad, k, li, is, s, t, _, rfl⟩ | ⟨_, rfl⟩
  · exact ⟨_, _, _, _, _, _, _, _, _, _, _, rfl⟩
  · exact ⟨_, _, _, _, _, _, _, _, _, _, _, rfl⟩
set_option maxHeartbeats 8000000 in
theorem tkDecode_pn (b : List UInt8) (hn : b.length ≤ 140737488355000) : PN Try.prog 31 [.lst 1 (b.map byteA)] (DecT b) := by
  refine PN.of_ac ?_
  by_cases hpos : (b.length : Int) > 0
  · obtain ⟨c0, e0⟩ : ∃ c, b.getD 0 0 = c := ⟨_, rfl⟩
    have g0 : (b.map byteA).getD 0 .any = .raw (.int .u8 (c0.toNat)) := by rw [getD_byte (by omega), e0]; rfl
    by_cases hgt : (c0.toNat : Int) > 1
    · refine AC.of_body (M := []) Try.func31 rfl (by kernel_rfl) (Nat.le_of_ble_eq_true rfl) ?_; simp only [Try.results31, Try.ntmps31]
      simp (dsimp := false) only [go_sem, ↓reduceIte, Nat.reduceEqDiff, Nat.reduceLT, Nat.reduceAdd, Nat.reduceSub, Nat.reduceMul, Nat.reduceLeDiff, reduceCtorEq, Int.reduceNeg, Int.reduceToNat, Int.reduceLT, Int.reduceLE, Int.reduceGE, Int.reduceGT, Int.reduceEq, hpos, g0, hgt]
      intro k1 _
      refine .inr ⟨fun lt n i r ad k li is s t h => ?_, ?_⟩
      · have := h.lt_eq.2.1
        rw [e0] at this
        exact this hgt
      · rw [errT, if_pos ⟨hpos, by rw [e0]; exact hgt⟩]
        rfl
    obtain ⟨lt, hlt⟩ : ∃ l, decide ((c0.toNat : Int) = 1) = l := ⟨_, rfl⟩
    obtain ⟨at0, hat⟩ : ∃ a : Int, a = 1 := ⟨_, rfl⟩
    have hmin : min (b.length : Int) 1 = at0 := by omega
    have hrd : ∀ {n i r : ByteArray} {ad k li is : Int} {s t : ByteArray}, TkIs b lt n i r ad k li is s t → tkR b lt (at0, false) = ((n, i, r), ad, k, li, is, s, t, false) := fun h => by rw [hat]; exact h.read
    have hlt' : ∀ {lt' : Bool} {n i r : ByteArray} {ad k li is : Int} {s t : ByteArray}, TkIs b lt' n i r ad k li is s t → lt' = lt := fun h => by rw [← h.lt_eq.1, e0, hlt]
    have herr : errT b = 100 := by rw [errT, if_neg (by rw [e0]; omega)]
    obtain ⟨⟨⟨p1, p2, p3⟩, s1⟩, e1⟩ : ∃ x, cPrin b (at0, false) = x := ⟨_, rfl⟩
    obtain ⟨x2, e2⟩ : ∃ x, cNum b 4 lt s1 = x := ⟨_, rfl⟩
    obtain ⟨x3, e3⟩ : ∃ x, cKey b x2.2 = x := ⟨_, rfl⟩
    obtain ⟨x4, e4⟩ : ∃ x, cNum b 1 false x3.2 = x := ⟨_, rfl⟩
    obtain ⟨x5, e5⟩ : ∃ x, cNum b 4 lt x4.2 = x := ⟨_, rfl⟩
    obtain ⟨x6, e6⟩ : ∃ x, cTxt b x5.2 = x := ⟨_, rfl⟩
    obtain ⟨x7, e7⟩ : ∃ x, cTxt b x6.2 = x := ⟨_, rfl⟩
    have o1 : 0 ≤ s1.1 ∧ s1.1 ≤ b.length := by have := cPrin_ok (b := b) (s := (at0, false)) (by simp only; omega) (by simp only; omega); rw [e1] at this; exact this
    have o2 : 0 ≤ x2.2.1 ∧ x2.2.1 ≤ b.length := by rw [← e2]; exact cNum_ok o1.1 o1.2
    have o3 : 0 ≤ x3.2.1 ∧ x3.2.1 ≤ b.length := by rw [← e3]; exact cKey_ok o2.1 o2.2
    have o4 : 0 ≤ x4.2.1 ∧ x4.2.1 ≤ b.length := by rw [← e4]; exact cNum_ok o3.1 o3.2
    have o5 : 0 ≤ x5.2.1 ∧ x5.2.1 ≤ b.length := by rw [← e5]; exact cNum_ok o4.1 o4.2
    have z1 := cPrin_small b (at0, false)
    rw [e1] at z1
    simp only at z1
    have z6 : x6.1.size ≤ 39 := by rw [← e6]; exact cTxt_small _ _
    have z7 : x7.1.size ≤ 39 := by rw [← e7]; exact cTxt_small _ _
    have zk : 0 ≤ x3.1 ∧ x3.1 < 18446744073709551616 := by rw [← e3]; exact keyR_range _
    have hR : tkR b lt (at0, false) = ((p1, p2, p3), x2.1, x3.1, x4.1, x5.1, x6.1, x7.1, x7.2.2) := by simp only [tkR, e1, e2, e3, e4, e5, e6, e7]
    have hE := tkEncode_pure lt p1 p2 p3 x2.1 x3.1 x4.1 x5.1 x6.1 x7.1 (by omega) (by omega) (by omega) (by omega) (by omega) zk.1 zk.2
    unfold ticketA tkE at hE
    have key : ∀ lt' n i r ad k li is s t, TkIs b lt' n i r ad k li is s t → lt' = lt ∧ n = p1 ∧ i = p2 ∧ r = p3 ∧ ad = x2.1 ∧ k = x3.1 ∧ li = x4.1 ∧ is = x5.1 ∧ s = x6.1 ∧ t = x7.1 ∧ x7.2.2 = false := fun lt' n i r ad k li is s t h => by
      have hl : lt' = lt := hlt' h
      subst hl
      have := (hrd h).symm.trans hR
      simp only [Prod.mk.injEq] at this
      obtain ⟨⟨a, b, c⟩, d, e, f, g, h, i, j⟩ := this
      exact ⟨rfl, a, b, c, d, e, f, g, h, i, j.symm⟩
    refine AC.of_body (M := []) Try.func31 rfl (by kernel_rfl) (Nat.le_of_ble_eq_true rfl) ?_; simp only [Try.results31, Try.ntmps31]
    simp (dsimp := false) only [go_sem, ↓reduceIte, Nat.reduceEqDiff, Nat.reduceLT, Nat.reduceAdd, Nat.reduceSub, Nat.reduceMul, Nat.reduceLeDiff, reduceCtorEq, Int.reduceNeg, Int.reduceToNat, Int.reduceLT, Int.reduceLE, Int.reduceGE, Int.reduceGT, Int.reduceEq, hpos, g0, hgt, hlt, hmin]
    intro k1 hk1 k2 hk2
    refine ACs.of (CNew_own b at0 lt _ _ fun k hk => ?_)
    have n12 := none_ne hk2
    have n2 := none_ne hk
    have hk' := hk
    rw [Own.set_ne _ _ n2] at hk'
    have n1 := none_ne hk'
    have a1 : ∀ (own : Own) o, (own.set k1 o) k = own k := fun own o => Own.set_ne _ _ n1
    have a2 : ∀ (own : Own) o, (own.set k o) k1 = own k1 := fun own o => Own.set_ne _ _ (Ne.symm n1)
    have b1 : ∀ (own : Own) o, (own.set k2 o) k = own k := fun own o => Own.set_ne _ _ n2
    have b2 : ∀ (own : Own) o, (own.set k o) k2 = own k2 := fun own o => Own.set_ne _ _ (Ne.symm n2)
    have b3 : ∀ (own : Own) o, (own.set k2 o) k1 = own k1 := fun own o => Own.set_ne _ _ (Ne.symm n12)
    have b4 : ∀ (own : Own) o, (own.set k1 o) k2 = own k2 := fun own o => Own.set_ne _ _ n12
    clear hk hk' hk2 hk1
    simp (dsimp := false) only [go_sem, ↓reduceIte, Nat.reduceEqDiff, Nat.reduceLT, Nat.reduceAdd, Nat.reduceSub, Nat.reduceMul, Nat.reduceLeDiff, reduceCtorEq, Int.reduceNeg, Int.reduceToNat, Int.reduceLT, Int.reduceLE, Int.reduceGE, Int.reduceGT, Int.reduceEq, a1, a2, b1, b2, b3, b4]
    refine ACs.of (CPrincipal_own b lt (at0, false) k _ _ (Own.set_same _ _ _) hn ?_)
    simp (dsimp := false) only [go_sem, ↓reduceIte, Nat.reduceEqDiff, Nat.reduceLT, Nat.reduceAdd, Nat.reduceSub, Nat.reduceMul, Nat.reduceLeDiff, reduceCtorEq, Int.reduceNeg, Int.reduceToNat, Int.reduceLT, Int.reduceLE, Int.reduceGE, Int.reduceGT, Int.reduceEq, e1, prinA, a1, a2, b1, b2, b3, b4]
    refine ACs.of (CNumber_own b lt s1 k _ _ (by simp only [a1, a2, b1, b2, b3, b4, Own.set_same]) o1.1 o1.2 hn ?_)
    simp (dsimp := false) only [go_sem, ↓reduceIte, Nat.reduceEqDiff, Nat.reduceLT, Nat.reduceAdd, Nat.reduceSub, Nat.reduceMul, Nat.reduceLeDiff, reduceCtorEq, Int.reduceNeg, Int.reduceToNat, Int.reduceLT, Int.reduceLE, Int.reduceGE, Int.reduceGT, Int.reduceEq, e2, a1, a2, b1, b2, b3, b4]
    refine ACs.of (CKey_own b lt x2.2 k _ _ (by simp only [a1, a2, b1, b2, b3, b4, Own.set_same]) o2.1 o2.2 hn ?_)
    simp (dsimp := false) only [go_sem, ↓reduceIte, Nat.reduceEqDiff, Nat.reduceLT, Nat.reduceAdd, Nat.reduceSub, Nat.reduceMul, Nat.reduceLeDiff, reduceCtorEq, Int.reduceNeg, Int.reduceToNat, Int.reduceLT, Int.reduceLE, Int.reduceGE, Int.reduceGT, Int.reduceEq, e3, a1, a2, b1, b2, b3, b4]
    refine ACs.of (COctet_own b lt x3.2 k _ _ (by simp only [a1, a2, b1, b2, b3, b4, Own.set_same]) o3.1 o3.2 hn ?_)
    simp (dsimp := false) only [go_sem, ↓reduceIte, Nat.reduceEqDiff, Nat.reduceLT, Nat.reduceAdd, Nat.reduceSub, Nat.reduceMul, Nat.reduceLeDiff, reduceCtorEq, Int.reduceNeg, Int.reduceToNat, Int.reduceLT, Int.reduceLE, Int.reduceGE, Int.reduceGT, Int.reduceEq, e4, a1, a2, b1, b2, b3, b4]
    refine ACs.of (CNumber_own b lt x4.2 k _ _ (by simp only [a1, a2, b1, b2, b3, b4, Own.set_same]) o4.1 o4.2 hn ?_)
    simp (dsimp := false) only [go_sem, ↓reduceIte, Nat.reduceEqDiff, Nat.reduceLT, Nat.reduceAdd, Nat.reduceSub, Nat.reduceMul, Nat.reduceLeDiff, reduceCtorEq, Int.reduceNeg, Int.reduceToNat, Int.reduceLT, Int.reduceLE, Int.reduceGE, Int.reduceGT, Int.reduceEq, e5, a1, a2, b1, b2, b3, b4]
    refine ACs.of (CText_own b lt x5.2 k _ _ (by simp only [a1, a2, b1, b2, b3, b4, Own.set_same]) hn ?_)
    simp (dsimp := false) only [go_sem, ↓reduceIte, Nat.reduceEqDiff, Nat.reduceLT, Nat.reduceAdd, Nat.reduceSub, Nat.reduceMul, Nat.reduceLeDiff, reduceCtorEq, Int.reduceNeg, Int.reduceToNat, Int.reduceLT, Int.reduceLE, Int.reduceGE, Int.reduceGT, Int.reduceEq, e6, a1, a2, b1, b2, b3, b4]
    refine ACs.of (CText_own b lt x6.2 k _ _ (by simp only [a1, a2, b1, b2, b3, b4, Own.set_same]) hn ?_)
    simp (dsimp := false) only [go_sem, ↓reduceIte, Nat.reduceEqDiff, Nat.reduceLT, Nat.reduceAdd, Nat.reduceSub, Nat.reduceMul, Nat.reduceLeDiff, reduceCtorEq, Int.reduceNeg, Int.reduceToNat, Int.reduceLT, Int.reduceLE, Int.reduceGE, Int.reduceGT, Int.reduceEq, e7, a1, a2, b1, b2, b3, b4]
    refine ACs.pure hE ?_
    simp (dsimp := false) only [go_sem, ↓reduceIte, Nat.reduceEqDiff, Nat.reduceLT, Nat.reduceAdd, Nat.reduceSub, Nat.reduceMul, Nat.reduceLeDiff, reduceCtorEq, Int.reduceNeg, Int.reduceToNat, Int.reduceLT, Int.reduceLE, Int.reduceGE, Int.reduceGT, Int.reduceEq, a1, a2, b1, b2, b3, b4]
    refine ACs.of (CBad_own b lt x7.2 k _ _ (by simp only [a1, a2, b1, b2, b3, b4, Own.set_same]) ?_)
    rcases Bool.eq_false_or_eq_true x7.2.2 with hb | hb
    · simp (dsimp := false) only [go_sem, ↓reduceIte, Nat.reduceEqDiff, Nat.reduceLT, Nat.reduceAdd, Nat.reduceSub, Nat.reduceMul, Nat.reduceLeDiff, reduceCtorEq, Int.reduceNeg, Int.reduceToNat, Int.reduceLT, Int.reduceLE, Int.reduceGE, Int.reduceGT, Int.reduceEq, hb, a1, a2, b1, b2, b3, b4]
      refine .inr ⟨fun lt' n i r ad k li is s t h => ?_, by rw [herr]; rfl⟩
      rw [(key _ _ _ _ _ _ _ _ _ _ h).2.2.2.2.2.2.2.2.2.2] at hb
      cases hb
    by_cases hc : tkChk p1 p2 p3 x2.1 x3.1 x4.1 x5.1 x6.1 x7.1 = 0
    · simp (dsimp := false) only [go_sem, ↓reduceIte, Nat.reduceEqDiff, Nat.reduceLT, Nat.reduceAdd, Nat.reduceSub, Nat.reduceMul, Nat.reduceLeDiff, reduceCtorEq, Int.reduceNeg, Int.reduceToNat, Int.reduceLT, Int.reduceLE, Int.reduceGE, Int.reduceGT, Int.reduceEq, hb, hc, a1, a2, b1, b2, b3, b4]
      refine ACs.pure (Equal_pure _ b) ?_
      by_cases hq : tkB lt p1 p2 p3 x2.1 x3.1 x4.1 x5.1 x6.1 x7.1 = b
      · simp (dsimp := false) only [go_sem, ↓reduceIte, Nat.reduceEqDiff, Nat.reduceLT, Nat.reduceAdd, Nat.reduceSub, Nat.reduceMul, Nat.reduceLeDiff, reduceCtorEq, Int.reduceNeg, Int.reduceToNat, Int.reduceLT, Int.reduceLE, Int.reduceGE, Int.reduceGT, Int.reduceEq, hq, a1, a2, b1, b2, b3, b4]
        exact .inl ⟨_, _, _, _, _, _, _, _, _, _, ⟨tkChk_ok hc zk, hq⟩, rfl⟩
      · simp (dsimp := false) only [go_sem, ↓reduceIte, Nat.reduceEqDiff, Nat.reduceLT, Nat.reduceAdd, Nat.reduceSub, Nat.reduceMul, Nat.reduceLeDiff, reduceCtorEq, Int.reduceNeg, Int.reduceToNat, Int.reduceLT, Int.reduceLE, Int.reduceGE, Int.reduceGT, Int.reduceEq, hq, a1, a2, b1, b2, b3, b4]
        refine .inr ⟨fun lt' n i r ad k li is s t h => ?_, by rw [herr]; rfl⟩
        obtain ⟨rfl, rfl, rfl, rfl, rfl, rfl, rfl, rfl, rfl, rfl, _⟩ := key _ _ _ _ _ _ _ _ _ _ h
        exact hq h.2
    · simp (dsimp := false) only [go_sem, ↓reduceIte, Nat.reduceEqDiff, Nat.reduceLT, Nat.reduceAdd, Nat.reduceSub, Nat.reduceMul, Nat.reduceLeDiff, reduceCtorEq, Int.reduceNeg, Int.reduceToNat, Int.reduceLT, Int.reduceLE, Int.reduceGE, Int.reduceGT, Int.reduceEq, hb, hc, a1, a2, b1, b2, b3, b4]
      refine .inr ⟨fun lt' n i r ad k li is s t h => ?_, by rw [herr]; rfl⟩
      obtain ⟨rfl, rfl, rfl, rfl, rfl, rfl, rfl, rfl, rfl, rfl, _⟩ := key _ _ _ _ _ _ _ _ _ _ h
      exact hc h.1.chk
  · obtain ⟨at0, hat⟩ : ∃ a : Int, a = 0 := ⟨_, rfl⟩
    have hmin : min (b.length : Int) 1 = at0 := by omega
    have hrd : ∀ {n i r : ByteArray} {ad k li is : Int} {s t : ByteArray}, TkIs b false n i r ad k li is s t → tkR b false (at0, false) = ((n, i, r), ad, k, li, is, s, t, false) := fun h => by have := h.lt_eq.2.2; omega
    have hlt' : ∀ {lt' : Bool} {n i r : ByteArray} {ad k li is : Int} {s t : ByteArray}, TkIs b lt' n i r ad k li is s t → lt' = false := fun h => by have := h.lt_eq.2.2; omega
    have herr : errT b = 100 := by rw [errT, if_neg (by omega)]
    obtain ⟨⟨⟨p1, p2, p3⟩, s1⟩, e1⟩ : ∃ x, cPrin b (at0, false) = x := ⟨_, rfl⟩
    obtain ⟨x2, e2⟩ : ∃ x, cNum b 4 false s1 = x := ⟨_, rfl⟩
    obtain ⟨x3, e3⟩ : ∃ x, cKey b x2.2 = x := ⟨_, rfl⟩
    obtain ⟨x4, e4⟩ : ∃ x, cNum b 1 false x3.2 = x := ⟨_, rfl⟩
    obtain ⟨x5, e5⟩ : ∃ x, cNum b 4 false x4.2 = x := ⟨_, rfl⟩
    obtain ⟨x6, e6⟩ : ∃ x, cTxt b x5.2 = x := ⟨_, rfl⟩
    obtain ⟨x7, e7⟩ : ∃ x, cTxt b x6.2 = x := ⟨_, rfl⟩
    have o1 : 0 ≤ s1.1 ∧ s1.1 ≤ b.length := by have := cPrin_ok (b := b) (s := (at0, false)) (by simp only; omega) (by simp only; omega); rw [e1] at this; exact this
    have o2 : 0 ≤ x2.2.1 ∧ x2.2.1 ≤ b.length := by rw [← e2]; exact cNum_ok o1.1 o1.2
    have o3 : 0 ≤ x3.2.1 ∧ x3.2.1 ≤ b.length := by rw [← e3]; exact cKey_ok o2.1 o2.2
    have o4 : 0 ≤ x4.2.1 ∧ x4.2.1 ≤ b.length := by rw [← e4]; exact cNum_ok o3.1 o3.2
    have o5 : 0 ≤ x5.2.1 ∧ x5.2.1 ≤ b.length := by rw [← e5]; exact cNum_ok o4.1 o4.2
    have z1 := cPrin_small b (at0, false)
    rw [e1] at z1
    simp only at z1
    have z6 : x6.1.size ≤ 39 := by rw [← e6]; exact cTxt_small _ _
    have z7 : x7.1.size ≤ 39 := by rw [← e7]; exact cTxt_small _ _
    have zk : 0 ≤ x3.1 ∧ x3.1 < 18446744073709551616 := by rw [← e3]; exact keyR_range _
    have hR : tkR b false (at0, false) = ((p1, p2, p3), x2.1, x3.1, x4.1, x5.1, x6.1, x7.1, x7.2.2) := by simp only [tkR, e1, e2, e3, e4, e5, e6, e7]
    have hE := tkEncode_pure false p1 p2 p3 x2.1 x3.1 x4.1 x5.1 x6.1 x7.1 (by omega) (by omega) (by omega) (by omega) (by omega) zk.1 zk.2
    unfold ticketA tkE at hE
    have key : ∀ lt' n i r ad k li is s t, TkIs b lt' n i r ad k li is s t → lt' = false ∧ n = p1 ∧ i = p2 ∧ r = p3 ∧ ad = x2.1 ∧ k = x3.1 ∧ li = x4.1 ∧ is = x5.1 ∧ s = x6.1 ∧ t = x7.1 ∧ x7.2.2 = false := fun lt' n i r ad k li is s t h => by
      have hl : lt' = false := hlt' h
      subst hl
      have := (hrd h).symm.trans hR
      simp only [Prod.mk.injEq] at this
      obtain ⟨⟨a, b, c⟩, d, e, f, g, h, i, j⟩ := this
      exact ⟨rfl, a, b, c, d, e, f, g, h, i, j.symm⟩
    refine AC.of_body (M := []) Try.func31 rfl (by kernel_rfl) (Nat.le_of_ble_eq_true rfl) ?_; simp only [Try.results31, Try.ntmps31]
    simp (dsimp := false) only [go_sem, ↓reduceIte, Nat.reduceEqDiff, Nat.reduceLT, Nat.reduceAdd, Nat.reduceSub, Nat.reduceMul, Nat.reduceLeDiff, reduceCtorEq, Int.reduceNeg, Int.reduceToNat, Int.reduceLT, Int.reduceLE, Int.reduceGE, Int.reduceGT, Int.reduceEq, hpos, hmin]
    intro k1 hk1 k2 hk2
    refine ACs.of (CNew_own b at0 false _ _ fun k hk => ?_)
    have n12 := none_ne hk2
    have n2 := none_ne hk
    have hk' := hk
    rw [Own.set_ne _ _ n2] at hk'
    have n1 := none_ne hk'
    have a1 : ∀ (own : Own) o, (own.set k1 o) k = own k := fun own o => Own.set_ne _ _ n1
    have a2 : ∀ (own : Own) o, (own.set k o) k1 = own k1 := fun own o => Own.set_ne _ _ (Ne.symm n1)
    have b1 : ∀ (own : Own) o, (own.set k2 o) k = own k := fun own o => Own.set_ne _ _ n2
    have b2 : ∀ (own : Own) o, (own.set k o) k2 = own k2 := fun own o => Own.set_ne _ _ (Ne.symm n2)
    have b3 : ∀ (own : Own) o, (own.set k2 o) k1 = own k1 := fun own o => Own.set_ne _ _ (Ne.symm n12)
    have b4 : ∀ (own : Own) o, (own.set k1 o) k2 = own k2 := fun own o => Own.set_ne _ _ n12
    clear hk hk' hk2 hk1
    simp (dsimp := false) only [go_sem, ↓reduceIte, Nat.reduceEqDiff, Nat.reduceLT, Nat.reduceAdd, Nat.reduceSub, Nat.reduceMul, Nat.reduceLeDiff, reduceCtorEq, Int.reduceNeg, Int.reduceToNat, Int.reduceLT, Int.reduceLE, Int.reduceGE, Int.reduceGT, Int.reduceEq, a1, a2, b1, b2, b3, b4]
    refine ACs.of (CPrincipal_own b false (at0, false) k _ _ (Own.set_same _ _ _) hn ?_)
    simp (dsimp := false) only [go_sem, ↓reduceIte, Nat.reduceEqDiff, Nat.reduceLT, Nat.reduceAdd, Nat.reduceSub, Nat.reduceMul, Nat.reduceLeDiff, reduceCtorEq, Int.reduceNeg, Int.reduceToNat, Int.reduceLT, Int.reduceLE, Int.reduceGE, Int.reduceGT, Int.reduceEq, e1, prinA, a1, a2, b1, b2, b3, b4]
    refine ACs.of (CNumber_own b false s1 k _ _ (by simp only [a1, a2, b1, b2, b3, b4, Own.set_same]) o1.1 o1.2 hn ?_)
    simp (dsimp := false) only [go_sem, ↓reduceIte, Nat.reduceEqDiff, Nat.reduceLT, Nat.reduceAdd, Nat.reduceSub, Nat.reduceMul, Nat.reduceLeDiff, reduceCtorEq, Int.reduceNeg, Int.reduceToNat, Int.reduceLT, Int.reduceLE, Int.reduceGE, Int.reduceGT, Int.reduceEq, e2, a1, a2, b1, b2, b3, b4]
    refine ACs.of (CKey_own b false x2.2 k _ _ (by simp only [a1, a2, b1, b2, b3, b4, Own.set_same]) o2.1 o2.2 hn ?_)
    simp (dsimp := false) only [go_sem, ↓reduceIte, Nat.reduceEqDiff, Nat.reduceLT, Nat.reduceAdd, Nat.reduceSub, Nat.reduceMul, Nat.reduceLeDiff, reduceCtorEq, Int.reduceNeg, Int.reduceToNat, Int.reduceLT, Int.reduceLE, Int.reduceGE, Int.reduceGT, Int.reduceEq, e3, a1, a2, b1, b2, b3, b4]
    refine ACs.of (COctet_own b false x3.2 k _ _ (by simp only [a1, a2, b1, b2, b3, b4, Own.set_same]) o3.1 o3.2 hn ?_)
    simp (dsimp := false) only [go_sem, ↓reduceIte, Nat.reduceEqDiff, Nat.reduceLT, Nat.reduceAdd, Nat.reduceSub, Nat.reduceMul, Nat.reduceLeDiff, reduceCtorEq, Int.reduceNeg, Int.reduceToNat, Int.reduceLT, Int.reduceLE, Int.reduceGE, Int.reduceGT, Int.reduceEq, e4, a1, a2, b1, b2, b3, b4]
    refine ACs.of (CNumber_own b false x4.2 k _ _ (by simp only [a1, a2, b1, b2, b3, b4, Own.set_same]) o4.1 o4.2 hn ?_)
    simp (dsimp := false) only [go_sem, ↓reduceIte, Nat.reduceEqDiff, Nat.reduceLT, Nat.reduceAdd, Nat.reduceSub, Nat.reduceMul, Nat.reduceLeDiff, reduceCtorEq, Int.reduceNeg, Int.reduceToNat, Int.reduceLT, Int.reduceLE, Int.reduceGE, Int.reduceGT, Int.reduceEq, e5, a1, a2, b1, b2, b3, b4]
    refine ACs.of (CText_own b false x5.2 k _ _ (by simp only [a1, a2, b1, b2, b3, b4, Own.set_same]) hn ?_)
    simp (dsimp := false) only [go_sem, ↓reduceIte, Nat.reduceEqDiff, Nat.reduceLT, Nat.reduceAdd, Nat.reduceSub, Nat.reduceMul, Nat.reduceLeDiff, reduceCtorEq, Int.reduceNeg, Int.reduceToNat, Int.reduceLT, Int.reduceLE, Int.reduceGE, Int.reduceGT, Int.reduceEq, e6, a1, a2, b1, b2, b3, b4]
    refine ACs.of (CText_own b false x6.2 k _ _ (by simp only [a1, a2, b1, b2, b3, b4, Own.set_same]) hn ?_)
    simp (dsimp := false) only [go_sem, ↓reduceIte, Nat.reduceEqDiff, Nat.reduceLT, Nat.reduceAdd, Nat.reduceSub, Nat.reduceMul, Nat.reduceLeDiff, reduceCtorEq, Int.reduceNeg, Int.reduceToNat, Int.reduceLT, Int.reduceLE, Int.reduceGE, Int.reduceGT, Int.reduceEq, e7, a1, a2, b1, b2, b3, b4]
    refine ACs.pure hE ?_
    simp (dsimp := false) only [go_sem, ↓reduceIte, Nat.reduceEqDiff, Nat.reduceLT, Nat.reduceAdd, Nat.reduceSub, Nat.reduceMul, Nat.reduceLeDiff, reduceCtorEq, Int.reduceNeg, Int.reduceToNat, Int.reduceLT, Int.reduceLE, Int.reduceGE, Int.reduceGT, Int.reduceEq, a1, a2, b1, b2, b3, b4]
    refine ACs.of (CBad_own b false x7.2 k _ _ (by simp only [a1, a2, b1, b2, b3, b4, Own.set_same]) ?_)
    rcases Bool.eq_false_or_eq_true x7.2.2 with hb | hb
    · simp (dsimp := false) only [go_sem, ↓reduceIte, Nat.reduceEqDiff, Nat.reduceLT, Nat.reduceAdd, Nat.reduceSub, Nat.reduceMul, Nat.reduceLeDiff, reduceCtorEq, Int.reduceNeg, Int.reduceToNat, Int.reduceLT, Int.reduceLE, Int.reduceGE, Int.reduceGT, Int.reduceEq, hb, a1, a2, b1, b2, b3, b4]
      refine .inr ⟨fun lt' n i r ad k li is s t h => ?_, by rw [herr]; rfl⟩
      rw [(key _ _ _ _ _ _ _ _ _ _ h).2.2.2.2.2.2.2.2.2.2] at hb
      cases hb
    by_cases hc : tkChk p1 p2 p3 x2.1 x3.1 x4.1 x5.1 x6.1 x7.1 = 0
    · simp (dsimp := false) only [go_sem, ↓reduceIte, Nat.reduceEqDiff, Nat.reduceLT, Nat.reduceAdd, Nat.reduceSub, Nat.reduceMul, Nat.reduceLeDiff, reduceCtorEq, Int.reduceNeg, Int.reduceToNat, Int.reduceLT, Int.reduceLE, Int.reduceGE, Int.reduceGT, Int.reduceEq, hb, hc, a1, a2, b1, b2, b3, b4]
      refine ACs.pure (Equal_pure _ b) ?_
      by_cases hq : tkB false p1 p2 p3 x2.1 x3.1 x4.1 x5.1 x6.1 x7.1 = b
      · simp (dsimp := false) only [go_sem, ↓reduceIte, Nat.reduceEqDiff, Nat.reduceLT, Nat.reduceAdd, Nat.reduceSub, Nat.reduceMul, Nat.reduceLeDiff, reduceCtorEq, Int.reduceNeg, Int.reduceToNat, Int.reduceLT, Int.reduceLE, Int.reduceGE, Int.reduceGT, Int.reduceEq, hq, a1, a2, b1, b2, b3, b4]
        exact .inl ⟨_, _, _, _, _, _, _, _, _, _, ⟨tkChk_ok hc zk, hq⟩, rfl⟩
      · simp (dsimp := false) only [go_sem, ↓reduceIte, Nat.reduceEqDiff, Nat.reduceLT, Nat.reduceAdd, Nat.reduceSub, Nat.reduceMul, Nat.reduceLeDiff, reduceCtorEq, Int.reduceNeg, Int.reduceToNat, Int.reduceLT, Int.reduceLE, Int.reduceGE, Int.reduceGT, Int.reduceEq, hq, a1, a2, b1, b2, b3, b4]
        refine .inr ⟨fun lt' n i r ad k li is s t h => ?_, by rw [herr]; rfl⟩
        obtain ⟨rfl, rfl, rfl, rfl, rfl, rfl, rfl, rfl, rfl, rfl, _⟩ := key _ _ _ _ _ _ _ _ _ _ h
        exact hq h.2
    · simp (dsimp := false) only [go_sem, ↓reduceIte, Nat.reduceEqDiff, Nat.reduceLT, Nat.reduceAdd, Nat.reduceSub, Nat.reduceMul, Nat.reduceLeDiff, reduceCtorEq, Int.reduceNeg, Int.reduceToNat, Int.reduceLT, Int.reduceLE, Int.reduceGE, Int.reduceGT, Int.reduceEq, hb, hc, a1, a2, b1, b2, b3, b4]
      refine .inr ⟨fun lt' n i r ad k li is s t h => ?_, by rw [herr]; rfl⟩
      obtain ⟨rfl, rfl, rfl, rfl, rfl, rfl, rfl, rfl, rfl, rfl, _⟩ := key _ _ _ _ _ _ _ _ _ _ h
      exact hc h.1.chk
end Go.Proofs.Ytaokfnfaipdpdaa.Fn
