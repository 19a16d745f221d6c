/- Safe and private messages are made. -/
import Derived.Test.YtghnigbihllnmaaGreatFn54
import Derived.Test.YtghnigbihllnmaaGreatFn36
import Derived.Test.YtghnigbihllnmaaGreatFn34
set_option linter.unusedVariables false
set_option linter.unusedSimpArgs false
namespace Go.Proofs.YtghnigbihllnmaaGreat.Fn
open Go Hl Sp Ty
set_option maxRecDepth 100000
def safA (lt : Bool) (t x : List UInt8) : AV := .st [.lst 1 (t.map byteA), .lst 1 (x.map byteA)]
/-- The first error. -/
def safChk (lt : Bool) (t x : List UInt8) : Int := if (t.length : Int) > 1000 ∨ (x.length : Int) > 1012 then 100 else 0
/-- The fields behind the header. -/
def safF (lt : Bool) (t x : List UInt8) : List UInt8 := numB (t.length : Int) 2 lt ++ t ++ numB (x.length : Int) 2 lt ++ x
def safB (lt : Bool) (t x : List UInt8) : List UInt8 := hdB 7 lt ++ safF lt t x
theorem safF_length (lt : Bool) (t x : List UInt8) : (safF lt t x).length = 2 + t.length + 2 + x.length := by
  simp only [safF, List.length_append, prinB_length, numB_length, textB_length, List.length_singleton] <;> omega
/-- What the encoder answers. -/
def safE (lt : Bool) (t x : List UInt8) : AV := .tup [.lst 1 ((if safChk lt t x = 0 then safB lt t x else []).map byteA), .raw (.int .i64 (safChk lt t x))]
theorem safChk_ok {lt : Bool} {t : List UInt8} {x : List UInt8} (h : safChk lt t x = 0) : (t.length : Int) ≤ 1000 ∧ (x.length : Int) ≤ 1012 := by
  unfold safChk at h
  split at h
  · cases h
  · rename_i h0
    exact ⟨(by omega), (by omega)⟩
/-- Without errors. -/
def safOk (lt : Bool) (t x : List UInt8) : Prop := safChk lt t x = 0
theorem safOk_chk {lt : Bool} {t : List UInt8} {x : List UInt8} (h : safOk lt t x) : safChk lt t x = 0 := h
/-- What is read of the fields. -/
def safR (b : List UInt8) (lt : Bool) (s0 : Int × Bool) : Int × List UInt8 × Int × List UInt8 × Bool :=
  let y1 := cNum b 2 lt s0
  let y2 := cByt b y1.1 y1.2
  let y3 := cNum b 2 lt y2.2
  let y4 := cByt b y3.1 y3.2
  (y1.1, y2.1, y3.1, y4.1, y4.2.2)
theorem safR_ok (pre post : List UInt8) (lt : Bool) (t : List UInt8) (x : List UInt8) (g1 : 0 ≤ (t.length : Int) ∧ (t.length : Int) ≤ 65535) (g2 : (t.length : Int) = (t.length : Int)) (g3 : 0 ≤ (x.length : Int) ∧ (x.length : Int) ≤ 65535) (g4 : (x.length : Int) = (x.length : Int)) : safR (pre ++ (safF lt t x ++ post)) lt (pre.length, false) = ((t.length : Int), t, (x.length : Int), x, false) := by
  obtain ⟨b, hb⟩ : ∃ b, b = pre ++ (safF lt t x ++ post) := ⟨_, rfl⟩
  obtain ⟨B1, hc1⟩ : ∃ B, B = numB (t.length : Int) 2 lt := ⟨_, rfl⟩
  have hl1 : B1.length = 2 := by rw [hc1]; simp only [prinB_length, numB_length, textB_length]
  obtain ⟨B3, hc3⟩ : ∃ B, B = numB (x.length : Int) 2 lt := ⟨_, rfl⟩
  have hl3 : B3.length = 2 := by rw [hc3]; simp only [prinB_length, numB_length, textB_length]
  have q1 : b = pre ++ (B1 ++ (t ++ (B3 ++ (x ++ post)))) := by rw [hb, hc1, hc3]; simp [safF]
  have q2 : b = (pre ++ B1) ++ (t ++ (B3 ++ (x ++ post))) := by rw [q1]; simp
  have q3 : b = (pre ++ B1 ++ t) ++ (B3 ++ (x ++ post)) := by rw [q1]; simp
  have q4 : b = (pre ++ B1 ++ t ++ B3) ++ (x ++ post) := by rw [q1]; simp
  have r1 := cNum_num pre (t ++ (B3 ++ (x ++ post))) (t.length : Int) 2 lt g1.1 (by omega)
  rw [← hc1, ← q1] at r1
  have r2 := cByt_at (pre ++ B1) t (B3 ++ (x ++ post)) (t.length : Int) g2
  have p2 : ((pre ++ B1).length : Int) = (pre.length : Int) + ((2 : Nat) : Int) := by simp only [List.length_append, List.length_singleton, hl1]; omega
  rw [← q2, p2] at r2
  have r3 := cNum_num (pre ++ B1 ++ t) (x ++ post) (x.length : Int) 2 lt g3.1 (by omega)
  have p3 : ((pre ++ B1 ++ t).length : Int) = (pre.length : Int) + ((2 : Nat) : Int) + (t.length : Int) := by simp only [List.length_append, List.length_singleton, hl1]; omega
  rw [← hc3, ← q3, p3] at r3
  have r4 := cByt_at (pre ++ B1 ++ t ++ B3) x post (x.length : Int) g4
  have p4 : ((pre ++ B1 ++ t ++ B3).length : Int) = (pre.length : Int) + ((2 : Nat) : Int) + (t.length : Int) + ((2 : Nat) : Int) := by simp only [List.length_append, List.length_singleton, hl1, hl3]; omega
  rw [← q4, p4] at r4
  rw [← hb]
  unfold safR
  simp only [r1, r2, r3, r4]
/-- What is read of the fields. -/
def safRr (b : List UInt8) (lt : Bool) (s0 : Int × Bool) : Int × List UInt8 × Int × List UInt8 × Bool :=
  let y1 := rNum b 2 lt s0
  let y2 := rByt b y1.1 y1.2
  let y3 := rNum b 2 lt y2.2
  let y4 := rByt b y3.1 y3.2
  (y1.1, y2.1, y3.1, y4.1, y4.2.2)
theorem safRr_ok (pre post : List UInt8) (lt : Bool) (t : List UInt8) (x : List UInt8) (g1 : 0 ≤ (t.length : Int) ∧ (t.length : Int) ≤ 65535) (g2 : (t.length : Int) = (t.length : Int)) (g3 : 0 ≤ (x.length : Int) ∧ (x.length : Int) ≤ 65535) (g4 : (x.length : Int) = (x.length : Int)) : safRr (pre ++ (safF lt t x ++ post)) lt (pre.length, false) = ((t.length : Int), t, (x.length : Int), x, false) := by
  obtain ⟨b, hb⟩ : ∃ b, b = pre ++ (safF lt t x ++ post) := ⟨_, rfl⟩
  obtain ⟨B1, hc1⟩ : ∃ B, B = numB (t.length : Int) 2 lt := ⟨_, rfl⟩
  have hl1 : B1.length = 2 := by rw [hc1]; simp only [prinB_length, numB_length, textB_length]
  obtain ⟨B3, hc3⟩ : ∃ B, B = numB (x.length : Int) 2 lt := ⟨_, rfl⟩
  have hl3 : B3.length = 2 := by rw [hc3]; simp only [prinB_length, numB_length, textB_length]
  have q1 : b = pre ++ (B1 ++ (t ++ (B3 ++ (x ++ post)))) := by rw [hb, hc1, hc3]; simp [safF]
  have q2 : b = (pre ++ B1) ++ (t ++ (B3 ++ (x ++ post))) := by rw [q1]; simp
  have q3 : b = (pre ++ B1 ++ t) ++ (B3 ++ (x ++ post)) := by rw [q1]; simp
  have q4 : b = (pre ++ B1 ++ t ++ B3) ++ (x ++ post) := by rw [q1]; simp
  have r1 := rNum_num pre (t ++ (B3 ++ (x ++ post))) (t.length : Int) 2 lt g1.1 (by omega)
  rw [← hc1, ← q1] at r1
  have r2 := rByt_at (pre ++ B1) t (B3 ++ (x ++ post)) (t.length : Int) g2
  have p2 : ((pre ++ B1).length : Int) = (pre.length : Int) + ((2 : Nat) : Int) := by simp only [List.length_append, List.length_singleton, hl1]; omega
  rw [← q2, p2] at r2
  have r3 := rNum_num (pre ++ B1 ++ t) (x ++ post) (x.length : Int) 2 lt g3.1 (by omega)
  have p3 : ((pre ++ B1 ++ t).length : Int) = (pre.length : Int) + ((2 : Nat) : Int) + (t.length : Int) := by simp only [List.length_append, List.length_singleton, hl1]; omega
  rw [← hc3, ← q3, p3] at r3
  have r4 := rByt_at (pre ++ B1 ++ t ++ B3) x post (x.length : Int) g4
  have p4 : ((pre ++ B1 ++ t ++ B3).length : Int) = (pre.length : Int) + ((2 : Nat) : Int) + (t.length : Int) + ((2 : Nat) : Int) := by simp only [List.length_append, List.length_singleton, hl1, hl3]; omega
  rw [← q4, p4] at r4
  rw [← hb]
  unfold safRr
  simp only [r1, r2, r3, r4]
/-- These bytes are those of this message. -/
def safIs (b : List UInt8) (lt : Bool) (t x : List UInt8) : Prop := safOk lt t x ∧ safB lt t x = b
theorem safIs.read {b : List UInt8} {lt : Bool} {t : List UInt8} {x : List UInt8} (h : safIs b lt t x) : safR b lt (2, false) = ((t.length : Int), t, (x.length : Int), x, false) := by
  obtain ⟨h1, rfl⟩ := h
  have hc := safChk_ok (safOk_chk h1)
  obtain ⟨c1, c2⟩ := hc
  have := safR_ok (hdB 7 lt) ([]) lt t x (⟨by omega, by omega⟩) (rfl) (⟨by omega, by omega⟩) (rfl)
  rw [List.append_nil, show ((hdB 7 lt).length : Int) = 2 from rfl] at this
  exact this
theorem safIs.rread {b : List UInt8} {lt : Bool} {t : List UInt8} {x : List UInt8} (h : safIs b lt t x) : safRr b lt (2, false) = ((t.length : Int), t, (x.length : Int), x, false) := by
  obtain ⟨h1, rfl⟩ := h
  have hc := safChk_ok (safOk_chk h1)
  obtain ⟨c1, c2⟩ := hc
  have := safRr_ok (hdB 7 lt) ([]) lt t x (⟨by omega, by omega⟩) (rfl) (⟨by omega, by omega⟩) (rfl)
  rw [List.append_nil, show ((hdB 7 lt).length : Int) = 2 from rfl] at this
  exact this
theorem safIs.hd {b : List UInt8} {lt : Bool} {t : List UInt8} {x : List UInt8} (h : safIs b lt t x) : hdIs b [7] = (lt, 0) := by
  obtain ⟨_, rfl⟩ := h
  unfold safB
  exact (hdIs_put (by decide) _ _).trans (if_pos (by decide))
theorem safIs.inj {b : List UInt8} {lt : Bool} {t : List UInt8} {x : List UInt8} {lt' : Bool} {t' : List UInt8} {x' : List UInt8} (h : safIs b lt t x) (h' : safIs b lt' t' x') : lt = lt' ∧ t = t' ∧ x = x' := by
  have e := h.hd.symm.trans h'.hd
  simp only [Prod.mk.injEq, and_true] at e
  subst e
  have := h.read.symm.trans h'.read
  simp only [Prod.mk.injEq] at this
  obtain ⟨a0, a1, a2, a3, _⟩ := this
  exact ⟨rfl, a1, a3⟩
def safZ : AV := .st [.lst 1 [], .lst 1 []]
def safErr (b : List UInt8) : Int := if (hdIs b [7]).2 = 0 then 100 else (hdIs b [7]).2
/-- What the decoder answers. -/
def safDec (b : List UInt8) (d : AV) : Prop :=
  (∃ lt t x, safIs b lt t x ∧ d = .tup [safA lt t x, .raw (.int .i64 0)]) ∨
  ((∀ lt t x, ¬ safIs b lt t x) ∧ d = .tup [safZ, .raw (.int .i64 (safErr b))])
theorem safDec.unique {b : List UInt8} {d d' : AV} (h : safDec b d) (h' : safDec b d') : d = d' := by
  rcases h with ⟨lt, t, x, h1, rfl⟩ | ⟨h1, rfl⟩
  · rcases h' with ⟨lt', t', x', h2, rfl⟩ | ⟨h2, rfl⟩
    · obtain ⟨rfl, rfl, rfl⟩ := h1.inj h2
      rfl
    · exact absurd h1 (h2 _ _ _)
  · rcases h' with ⟨lt', t', x', h2, rfl⟩ | ⟨h2, rfl⟩
    · exact absurd h2 (h1 _ _ _)
    · rfl
theorem safDec.of {b : List UInt8} {lt : Bool} {t : List UInt8} {x : List UInt8} {d : AV} (h : safDec b d) (h1 : safIs b lt t x) : d = .tup [safA lt t x, .raw (.int .i64 0)] := h.unique (.inl ⟨_, _, _, h1, rfl⟩)
def prvA (lt : Bool) (x : List UInt8) : AV := .st [.lst 1 (x.map byteA)]
/-- The first error. -/
def prvChk (lt : Bool) (x : List UInt8) : Int := if (x.length : Int) > 1012 then 100 else 0
/-- The fields behind the header. -/
def prvF (lt : Bool) (x : List UInt8) : List UInt8 := numB (x.length : Int) 2 lt ++ x
def prvB (lt : Bool) (x : List UInt8) : List UInt8 := hdB 6 lt ++ prvF lt x
theorem prvF_length (lt : Bool) (x : List UInt8) : (prvF lt x).length = 2 + x.length := by
  simp only [prvF, List.length_append, prinB_length, numB_length, textB_length, List.length_singleton] <;> omega
/-- What the encoder answers. -/
def prvE (lt : Bool) (x : List UInt8) : AV := .tup [.lst 1 ((if prvChk lt x = 0 then prvB lt x else []).map byteA), .raw (.int .i64 (prvChk lt x))]
theorem prvChk_ok {lt : Bool} {x : List UInt8} (h : prvChk lt x = 0) : (x.length : Int) ≤ 1012 := by
  unfold prvChk at h
  split at h
  · cases h
  · rename_i h0
    exact (by omega)
/-- Without errors. -/
def prvOk (lt : Bool) (x : List UInt8) : Prop := prvChk lt x = 0
theorem prvOk_chk {lt : Bool} {x : List UInt8} (h : prvOk lt x) : prvChk lt x = 0 := h
/-- What is read of the fields. -/
def prvR (b : List UInt8) (lt : Bool) (s0 : Int × Bool) : Int × List UInt8 × Bool :=
  let y1 := cNum b 2 lt s0
  let y2 := cByt b y1.1 y1.2
  (y1.1, y2.1, y2.2.2)
theorem prvR_ok (pre post : List UInt8) (lt : Bool) (x : List UInt8) (g1 : 0 ≤ (x.length : Int) ∧ (x.length : Int) ≤ 65535) (g2 : (x.length : Int) = (x.length : Int)) : prvR (pre ++ (prvF lt x ++ post)) lt (pre.length, false) = ((x.length : Int), x, false) := by
  obtain ⟨b, hb⟩ : ∃ b, b = pre ++ (prvF lt x ++ post) := ⟨_, rfl⟩
  obtain ⟨B1, hc1⟩ : ∃ B, B = numB (x.length : Int) 2 lt := ⟨_, rfl⟩
  have hl1 : B1.length = 2 := by rw [hc1]; simp only [prinB_length, numB_length, textB_length]
  have q1 : b = pre ++ (B1 ++ (x ++ post)) := by rw [hb, hc1]; simp [prvF]
  have q2 : b = (pre ++ B1) ++ (x ++ post) := by rw [q1]; simp
  have r1 := cNum_num pre (x ++ post) (x.length : Int) 2 lt g1.1 (by omega)
  rw [← hc1, ← q1] at r1
  have r2 := cByt_at (pre ++ B1) x post (x.length : Int) g2
  have p2 : ((pre ++ B1).length : Int) = (pre.length : Int) + ((2 : Nat) : Int) := by simp only [List.length_append, List.length_singleton, hl1]; omega
  rw [← q2, p2] at r2
  rw [← hb]
  unfold prvR
  simp only [r1, r2]
/-- What is read of the fields. -/
def prvRr (b : List UInt8) (lt : Bool) (s0 : Int × Bool) : Int × List UInt8 × Bool :=
  let y1 := rNum b 2 lt s0
  let y2 := rByt b y1.1 y1.2
  (y1.1, y2.1, y2.2.2)
theorem prvRr_ok (pre post : List UInt8) (lt : Bool) (x : List UInt8) (g1 : 0 ≤ (x.length : Int) ∧ (x.length : Int) ≤ 65535) (g2 : (x.length : Int) = (x.length : Int)) : prvRr (pre ++ (prvF lt x ++ post)) lt (pre.length, false) = ((x.length : Int), x, false) := by
  obtain ⟨b, hb⟩ : ∃ b, b = pre ++ (prvF lt x ++ post) := ⟨_, rfl⟩
  obtain ⟨B1, hc1⟩ : ∃ B, B = numB (x.length : Int) 2 lt := ⟨_, rfl⟩
  have hl1 : B1.length = 2 := by rw [hc1]; simp only [prinB_length, numB_length, textB_length]
  have q1 : b = pre ++ (B1 ++ (x ++ post)) := by rw [hb, hc1]; simp [prvF]
  have q2 : b = (pre ++ B1) ++ (x ++ post) := by rw [q1]; simp
  have r1 := rNum_num pre (x ++ post) (x.length : Int) 2 lt g1.1 (by omega)
  rw [← hc1, ← q1] at r1
  have r2 := rByt_at (pre ++ B1) x post (x.length : Int) g2
  have p2 : ((pre ++ B1).length : Int) = (pre.length : Int) + ((2 : Nat) : Int) := by simp only [List.length_append, List.length_singleton, hl1]; omega
  rw [← q2, p2] at r2
  rw [← hb]
  unfold prvRr
  simp only [r1, r2]
/-- These bytes are those of this message. -/
def prvIs (b : List UInt8) (lt : Bool) (x : List UInt8) : Prop := prvOk lt x ∧ prvB lt x = b
theorem prvIs.read {b : List UInt8} {lt : Bool} {x : List UInt8} (h : prvIs b lt x) : prvR b lt (2, false) = ((x.length : Int), x, false) := by
  obtain ⟨h1, rfl⟩ := h
  have hc := prvChk_ok (prvOk_chk h1)
  have c1 := hc
  have := prvR_ok (hdB 6 lt) ([]) lt x (⟨by omega, by omega⟩) (rfl)
  rw [List.append_nil, show ((hdB 6 lt).length : Int) = 2 from rfl] at this
  exact this
theorem prvIs.rread {b : List UInt8} {lt : Bool} {x : List UInt8} (h : prvIs b lt x) : prvRr b lt (2, false) = ((x.length : Int), x, false) := by
  obtain ⟨h1, rfl⟩ := h
  have hc := prvChk_ok (prvOk_chk h1)
  have c1 := hc
  have := prvRr_ok (hdB 6 lt) ([]) lt x (⟨by omega, by omega⟩) (rfl)
  rw [List.append_nil, show ((hdB 6 lt).length : Int) = 2 from rfl] at this
  exact this
theorem prvIs.hd {b : List UInt8} {lt : Bool} {x : List UInt8} (h : prvIs b lt x) : hdIs b [6] = (lt, 0) := by
  obtain ⟨_, rfl⟩ := h
  unfold prvB
  exact (hdIs_put (by decide) _ _).trans (if_pos (by decide))
theorem prvIs.inj {b : List UInt8} {lt : Bool} {x : List UInt8} {lt' : Bool} {x' : List UInt8} (h : prvIs b lt x) (h' : prvIs b lt' x') : lt = lt' ∧ x = x' := by
  have e := h.hd.symm.trans h'.hd
  simp only [Prod.mk.injEq, and_true] at e
  subst e
  have := h.read.symm.trans h'.read
  simp only [Prod.mk.injEq] at this
  obtain ⟨a0, a1, _⟩ := this
  exact ⟨rfl, a1⟩
def prvZ : AV := .lst 1 []
def prvErr (b : List UInt8) : Int := if (hdIs b [6]).2 = 0 then 100 else (hdIs b [6]).2
/-- What the decoder answers. -/
def prvDec (b : List UInt8) (d : AV) : Prop :=
  (∃ lt x, prvIs b lt x ∧ d = .tup [prvA lt x, .raw (.int .i64 0)]) ∨
  ((∀ lt x, ¬ prvIs b lt x) ∧ d = .tup [prvZ, .raw (.int .i64 (prvErr b))])
theorem prvDec.unique {b : List UInt8} {d d' : AV} (h : prvDec b d) (h' : prvDec b d') : d = d' := by
  rcases h with ⟨lt, x, h1, rfl⟩ | ⟨h1, rfl⟩
  · rcases h' with ⟨lt', x', h2, rfl⟩ | ⟨h2, rfl⟩
    · obtain ⟨rfl, rfl⟩ := h1.inj h2
      rfl
    · exact absurd h1 (h2 _ _)
  · rcases h' with ⟨lt', x', h2, rfl⟩ | ⟨h2, rfl⟩
    · exact absurd h2 (h1 _ _)
    · rfl
theorem prvDec.of {b : List UInt8} {lt : Bool} {x : List UInt8} {d : AV} (h : prvDec b d) (h1 : prvIs b lt x) : d = .tup [prvA lt x, .raw (.int .i64 0)] := h.unique (.inl ⟨_, _, h1, rfl⟩)
theorem conB_length (lt : Bool) (x : List UInt8) (ti ad tm : Int) : (conB lt x ti ad tm).length ≤ x.length + 20 := by
  have h := padB_length ([u8 (flagZ lt)] ++ conF lt x ti ad tm)
  rw [List.length_append, conF_length] at h
  unfold conB
  simp only [List.length_singleton] at h
  omega
/-- The error of a seal. -/
def slE (lt : Bool) (x : List UInt8) (ti ad tm k : Int) : Int := if conChk lt x ti ad tm = 0 then (if clsZ k = 0 then 10 else 0) else conChk lt x ti ad tm
/-- What seal answers. -/
def slA (kind : Int) (lt : Bool) (x : List UInt8) (ti ad tm k : Int) : AV :=
  .tup [.lst 1 ((if slE lt x ti ad tm k = 0 then conB lt x ti ad tm else []).map byteA), .lst 1 ((if slE lt x ti ad tm k = 0 then boxB kind k (conB lt x ti ad tm) else []).map byteA), .raw (.int .i64 (slE lt x ti ad tm k))]
/-- The bytes of a message. -/
def mkB (safe lt : Bool) (x : List UInt8) (ti ad tm k : Int) : List UInt8 :=
  if safe then safB lt (conB lt x ti ad tm) (boxB 6 k (conB lt x ti ad tm)) else prvB lt (boxB 5 k (conB lt x ti ad tm))
/-- What is made. -/
def mkA (safe lt : Bool) (x : List UInt8) (ti ad tm k : Int) : AV := .tup [.lst 1 ((if slE lt x ti ad tm k = 0 then mkB safe lt x ti ad tm k else []).map byteA), .raw (.int .i64 (slE lt x ti ad tm k))]
theorem nil3 {own : Own} {e : AV} : Weak1 own (.tup [.raw (.slice none 0 0), .raw (.slice none 0 0), e]) own (.tup [.lst 1 [], .lst 1 [], e]) :=
  Weak1.trans (Weak1.tup (Weak.one (pre := []) Weak1.nil)) (Weak1.tup (Weak.one (pre := [.lst 1 []]) Weak1.nil))
theorem boxB_length (kind k : Int) (body : List UInt8) : (boxB kind k body).length = body.length + 12 := by
  simp only [boxB, List.length_append, numB_length, List.length_cons, List.length_nil]
  omega
set_option maxHeartbeats 8000000 in
theorem message1_pure (kind : Int) (lt : Bool) (x : List UInt8) (hk : 1 ≤ kind ∧ kind ≤ 10) (hx : x.length ≤ 100000) :
    PC Tryz.prog 114 [.raw (.int .i64 kind), .raw (.bool lt), .lst 1 [.lst 1 (x.map byteA)]] (.lst 1 ((hdB kind lt ++ (numB x.length 2 lt ++ x)).map byteA)) := by
  refine PC.post ?_
  obtain ⟨b0, e0⟩ : ∃ b, b = hdB kind lt := ⟨_, rfl⟩
  have l0 : b0.length = 2 := by rw [e0]; rfl
  obtain ⟨b1, e1⟩ : ∃ b, b0 ++ numB (x.length : Int) 2 lt = b := ⟨_, rfl⟩
  have l1 : b1.length = b0.length + 2 := by rw [← e1, List.length_append, numB_length]
  obtain ⟨b2, e2⟩ : ∃ b, b1 ++ x = b := ⟨_, rfl⟩
  have l2 : b2.length = b1.length + x.length := by rw [← e2, List.length_append]
  have hfin : hdB kind lt ++ (numB (x.length : Int) 2 lt ++ x) = b2 := by rw [← e2, ← e1, e0, List.append_assoc]
  have pH := hdPut_pure kind lt hk
  rw [← e0] at pH
  have w1 : IntKind.i64.wrap (0 + 1) = 1 := by decide
  refine AC.of_body (M := []) Tryz.func114 rfl (by kernel_rfl) (Nat.le_of_ble_eq_true rfl) ?_; simp only [Tryz.results114, Tryz.ntmps114]
  simp (dsimp := false) only [go_sem, ↓reduceIte, Nat.reduceEqDiff, Nat.reduceLT, Nat.reduceAdd, Nat.reduceSub, Nat.reduceMul, Nat.reduceLeDiff, reduceCtorEq, Int.reduceNeg, Int.reduceToNat, Int.reduceLT, Int.reduceLE, Int.reduceGE, Int.reduceGT, Int.reduceEq]
  refine ACs.pure pH ?_
  simp (dsimp := false) only [go_sem, ↓reduceIte, Nat.reduceEqDiff, Nat.reduceLT, Nat.reduceAdd, Nat.reduceSub, Nat.reduceMul, Nat.reduceLeDiff, reduceCtorEq, Int.reduceNeg, Int.reduceToNat, Int.reduceLT, Int.reduceLE, Int.reduceGE, Int.reduceGT, Int.reduceEq]
  refine AW.rounds (M := []) 2 ?_
  simp (dsimp := false) only [go_sem, ↓reduceIte, Nat.reduceEqDiff, Nat.reduceLT, Nat.reduceAdd, Nat.reduceSub, Nat.reduceMul, Nat.reduceLeDiff, reduceCtorEq, Int.reduceNeg, Int.reduceToNat, Int.reduceLT, Int.reduceLE, Int.reduceGE, Int.reduceGT, Int.reduceEq, w1]
  refine ACs.of (PutShort_own b0 (x.length : Int) lt (by omega) _ _ ⟨fun h0 => absurd h0 (by rw [e1]; omega), fun k1 c1 hk1 hc1 => ?_⟩)
  rw [e1] at hc1
  simp only [e1]
  (try simp (dsimp := false) only [go_sem, ↓reduceIte, Nat.reduceEqDiff, Nat.reduceLT, Nat.reduceAdd, Nat.reduceSub, Nat.reduceMul, Nat.reduceLeDiff, reduceCtorEq, Int.reduceNeg, Int.reduceToNat, Int.reduceLT, Int.reduceLE, Int.reduceGE, Int.reduceGT, Int.reduceEq])
  have hcs : b1.map byteA ++ x.map byteA = b2.map byteA := by rw [← e2, List.map_append]
  simp (dsimp := false) only [go_sem, ↓reduceIte, Nat.reduceEqDiff, Nat.reduceLT, Nat.reduceAdd, Nat.reduceSub, Nat.reduceMul, Nat.reduceLeDiff, reduceCtorEq, Int.reduceNeg, Int.reduceToNat, Int.reduceLT, Int.reduceLE, Int.reduceGE, Int.reduceGT, Int.reduceEq, flat_byte, hcs, w1]
  refine ⟨okA_bytes x, by omega, by omega, fun k2 c2 hk2 hc2 => ?_⟩
  have hmv := fun o o' => Own.set_move hk1 k2 o o'
  rw [hmv]
  rw [hfin]
  exact ⟨_, rowW _ k2 c2 c2 _ b2 [] (by rw [List.append_nil]; exact Own.set_same _ _ _) (by omega) (by omega) (by omega)⟩
set_option maxHeartbeats 8000000 in
theorem message2_pure (kind : Int) (lt : Bool) (t x : List UInt8) (hk : 1 ≤ kind ∧ kind ≤ 10) (ht : t.length ≤ 100000) (hx : x.length ≤ 100000) :
    PC Tryz.prog 114 [.raw (.int .i64 kind), .raw (.bool lt), .lst 1 [.lst 1 (t.map byteA), .lst 1 (x.map byteA)]] (.lst 1 ((hdB kind lt ++ (numB t.length 2 lt ++ t ++ numB x.length 2 lt ++ x)).map byteA)) := by
  refine PC.post ?_
  obtain ⟨b0, e0⟩ : ∃ b, b = hdB kind lt := ⟨_, rfl⟩
  have l0 : b0.length = 2 := by rw [e0]; rfl
  obtain ⟨b1, e1⟩ : ∃ b, b0 ++ numB (t.length : Int) 2 lt = b := ⟨_, rfl⟩
  have l1 : b1.length = b0.length + 2 := by rw [← e1, List.length_append, numB_length]
  obtain ⟨b2, e2⟩ : ∃ b, b1 ++ t = b := ⟨_, rfl⟩
  have l2 : b2.length = b1.length + t.length := by rw [← e2, List.length_append]
  obtain ⟨b3, e3⟩ : ∃ b, b2 ++ numB (x.length : Int) 2 lt = b := ⟨_, rfl⟩
  have l3 : b3.length = b2.length + 2 := by rw [← e3, List.length_append, numB_length]
  obtain ⟨b4, e4⟩ : ∃ b, b3 ++ x = b := ⟨_, rfl⟩
  have l4 : b4.length = b3.length + x.length := by rw [← e4, List.length_append]
  have hfin : hdB kind lt ++ (numB (t.length : Int) 2 lt ++ t ++ numB (x.length : Int) 2 lt ++ x) = b4 := by rw [← e4, ← e3, ← e2, ← e1, e0]; simp only [List.append_assoc]
  have pH := hdPut_pure kind lt hk
  rw [← e0] at pH
  have w1 : IntKind.i64.wrap (0 + 1) = 1 := by decide
  have w2 : IntKind.i64.wrap (1 + 1) = 2 := by decide
  refine AC.of_body (M := []) Tryz.func114 rfl (by kernel_rfl) (Nat.le_of_ble_eq_true rfl) ?_; simp only [Tryz.results114, Tryz.ntmps114]
  simp (dsimp := false) only [go_sem, ↓reduceIte, Nat.reduceEqDiff, Nat.reduceLT, Nat.reduceAdd, Nat.reduceSub, Nat.reduceMul, Nat.reduceLeDiff, reduceCtorEq, Int.reduceNeg, Int.reduceToNat, Int.reduceLT, Int.reduceLE, Int.reduceGE, Int.reduceGT, Int.reduceEq]
  refine ACs.pure pH ?_
  simp (dsimp := false) only [go_sem, ↓reduceIte, Nat.reduceEqDiff, Nat.reduceLT, Nat.reduceAdd, Nat.reduceSub, Nat.reduceMul, Nat.reduceLeDiff, reduceCtorEq, Int.reduceNeg, Int.reduceToNat, Int.reduceLT, Int.reduceLE, Int.reduceGE, Int.reduceGT, Int.reduceEq]
  refine AW.rounds (M := []) 3 ?_
  simp (dsimp := false) only [go_sem, ↓reduceIte, Nat.reduceEqDiff, Nat.reduceLT, Nat.reduceAdd, Nat.reduceSub, Nat.reduceMul, Nat.reduceLeDiff, reduceCtorEq, Int.reduceNeg, Int.reduceToNat, Int.reduceLT, Int.reduceLE, Int.reduceGE, Int.reduceGT, Int.reduceEq, w1, w2]
  refine ACs.of (PutShort_own b0 (t.length : Int) lt (by omega) _ _ ⟨fun h0 => absurd h0 (by rw [e1]; omega), fun k1 c1 hk1 hc1 => ?_⟩)
  rw [e1] at hc1
  simp only [e1]
  (try simp (dsimp := false) only [go_sem, ↓reduceIte, Nat.reduceEqDiff, Nat.reduceLT, Nat.reduceAdd, Nat.reduceSub, Nat.reduceMul, Nat.reduceLeDiff, reduceCtorEq, Int.reduceNeg, Int.reduceToNat, Int.reduceLT, Int.reduceLE, Int.reduceGE, Int.reduceGT, Int.reduceEq])
  have hcs : b1.map byteA ++ t.map byteA = b2.map byteA := by rw [← e2, List.map_append]
  simp (dsimp := false) only [go_sem, ↓reduceIte, Nat.reduceEqDiff, Nat.reduceLT, Nat.reduceAdd, Nat.reduceSub, Nat.reduceMul, Nat.reduceLeDiff, reduceCtorEq, Int.reduceNeg, Int.reduceToNat, Int.reduceLT, Int.reduceLE, Int.reduceGE, Int.reduceGT, Int.reduceEq, flat_byte, hcs, w1, w2]
  refine ⟨okA_bytes t, by omega, by omega, fun k2 c2 hk2 hc2 => ?_⟩
  have hmv := fun o o' => Own.set_move hk1 k2 o o'
  have hk2 := Own.set_none hk1 hk2
  simp (dsimp := false) only [go_sem, ↓reduceIte, Nat.reduceEqDiff, Nat.reduceLT, Nat.reduceAdd, Nat.reduceSub, Nat.reduceMul, Nat.reduceLeDiff, reduceCtorEq, Int.reduceNeg, Int.reduceToNat, Int.reduceLT, Int.reduceLE, Int.reduceGE, Int.reduceGT, Int.reduceEq, hmv, w1, w2]
  refine ACs.arg (pre := []) (rowW _ k2 c2 c2 _ b2 [] (by rw [List.append_nil]; exact Own.set_same _ _ _) (by omega) (by omega) (by omega)) ?_
  refine ACs.of (PutShort_own b2 (x.length : Int) lt (by omega) _ _ ⟨fun h0 => absurd h0 (by rw [e3]; omega), fun k3 c3 hk3 hc3 => ?_⟩)
  rw [e3] at hc3
  simp only [e3]
  (try simp (dsimp := false) only [go_sem, ↓reduceIte, Nat.reduceEqDiff, Nat.reduceLT, Nat.reduceAdd, Nat.reduceSub, Nat.reduceMul, Nat.reduceLeDiff, reduceCtorEq, Int.reduceNeg, Int.reduceToNat, Int.reduceLT, Int.reduceLE, Int.reduceGE, Int.reduceGT, Int.reduceEq])
  have hcs2 : b3.map byteA ++ x.map byteA = b4.map byteA := by rw [← e4, List.map_append]
  simp (dsimp := false) only [go_sem, ↓reduceIte, Nat.reduceEqDiff, Nat.reduceLT, Nat.reduceAdd, Nat.reduceSub, Nat.reduceMul, Nat.reduceLeDiff, reduceCtorEq, Int.reduceNeg, Int.reduceToNat, Int.reduceLT, Int.reduceLE, Int.reduceGE, Int.reduceGT, Int.reduceEq, flat_byte, hcs2, w1, w2]
  refine ⟨okA_bytes x, by omega, by omega, fun k4 c4 hk4 hc4 => ?_⟩
  have hmv2 := fun o o' => Own.set_move hk3 k4 o o'
  rw [hmv2]
  rw [hfin]
  exact ⟨_, rowW _ k4 c4 c4 _ b4 [] (by rw [List.append_nil]; exact Own.set_same _ _ _) (by omega) (by omega) (by omega)⟩
theorem put11_pure (b x : List UInt8) (lt : Bool) (hb : b.length ≤ 100000) (hx : x.length ≤ 100000) :
    PC Tryz.prog 110 [.lst 1 (b.map byteA), .lst 1 (x.map byteA), .raw (.bool lt)] (.lst 1 ((b ++ numB x.length 2 lt ++ x).map byteA)) := by
  refine PC.post ?_
  obtain ⟨b1, e1⟩ : ∃ c, b ++ numB (x.length : Int) 2 lt = c := ⟨_, rfl⟩
  have l1 : b1.length = b.length + 2 := by rw [← e1, List.length_append, numB_length]
  obtain ⟨b2, e2⟩ : ∃ c, b1 ++ x = c := ⟨_, rfl⟩
  have l2 : b2.length = b1.length + x.length := by rw [← e2, List.length_append]
  refine AC.of_body (M := []) Tryz.func110 rfl (by kernel_rfl) (Nat.le_of_ble_eq_true rfl) ?_; simp only [Tryz.results110, Tryz.ntmps110]
  simp (dsimp := false) only [go_sem, ↓reduceIte, Nat.reduceEqDiff, Nat.reduceLT, Nat.reduceAdd, Nat.reduceSub, Nat.reduceMul, Nat.reduceLeDiff, reduceCtorEq, Int.reduceNeg, Int.reduceToNat, Int.reduceLT, Int.reduceLE, Int.reduceGE, Int.reduceGT, Int.reduceEq]
  refine ACs.of (rPutShort_own b (x.length : Int) lt (by omega) _ _ ⟨fun h0 => absurd h0 (by rw [e1]; omega), fun k1 c1 hk1 hc1 => ?_⟩)
  rw [e1] at hc1
  simp only [e1]
  (try simp (dsimp := false) only [go_sem, ↓reduceIte, Nat.reduceEqDiff, Nat.reduceLT, Nat.reduceAdd, Nat.reduceSub, Nat.reduceMul, Nat.reduceLeDiff, reduceCtorEq, Int.reduceNeg, Int.reduceToNat, Int.reduceLT, Int.reduceLE, Int.reduceGE, Int.reduceGT, Int.reduceEq])
  have hcs : b1.map byteA ++ x.map byteA = b2.map byteA := by rw [← e2, List.map_append]
  simp (dsimp := false) only [go_sem, ↓reduceIte, Nat.reduceEqDiff, Nat.reduceLT, Nat.reduceAdd, Nat.reduceSub, Nat.reduceMul, Nat.reduceLeDiff, reduceCtorEq, Int.reduceNeg, Int.reduceToNat, Int.reduceLT, Int.reduceLE, Int.reduceGE, Int.reduceGT, Int.reduceEq, flat_byte, hcs]
  refine ⟨okA_bytes x, by omega, by omega, fun k2 c2 hk2 hc2 => ?_⟩
  have hmv := fun o o' => Own.set_move hk1 k2 o o'
  rw [hmv, e1, e2]
  exact ⟨_, rowW _ k2 c2 c2 _ b2 [] (by rw [List.append_nil]; exact Own.set_same _ _ _) (by omega) (by omega) (by omega)⟩
set_option maxHeartbeats 4000000 in
theorem seal11_pure (kind : Int) (lt : Bool) (x : List UInt8) (ti ad tm k : Int) (hx : x.length ≤ 50000) (hk0 : 0 ≤ k) (hk1 : k < 18446744073709551616) (hkd : kindB kind = true) :
    PC Tryz.prog 161 [conA lt x ti ad tm, .raw (.bool lt), .raw (.int .u64 k), .raw (.int .i64 kind)] (slA kind lt x ti ad tm k) := by
  refine PC.post ?_
  have hE := conEncode_pure lt x ti ad tm (by omega)
  have hl := conB_length lt x ti ad tm
  have hM := boxMake_pure kind k (conB lt x ti ad tm) hk0 hk1 (by omega)
  have hV := keyValid_pure k hk0 hk1
  unfold slA
  by_cases h0 : conChk lt x ti ad tm = 0
  · have hx' := conChk_ok h0
    rw [conE, h0, if_pos rfl] at hE
    by_cases hc : clsZ k = 0
    · have hS : slE lt x ti ad tm k = 10 := by rw [slE, if_pos h0, if_pos hc]
      have hB : boxE kind k (conB lt x ti ad tm) = 10 := by rw [boxE, if_neg (by rw [hkd]; decide), if_pos hc]
      rw [boxM, hB, if_neg (by decide)] at hM
      rw [hS, if_neg (by decide), if_neg (by decide)]
      unfold conA at hE ⊢
      refine AC.of_body (M := []) Tryz.func161 rfl (by kernel_rfl) (Nat.le_of_ble_eq_true rfl) ?_; simp only [Tryz.results161, Tryz.ntmps161]
      simp (dsimp := false) only [go_sem, ↓reduceIte, Nat.reduceEqDiff, Nat.reduceLT, Nat.reduceAdd, Nat.reduceSub, Nat.reduceMul, Nat.reduceLeDiff, reduceCtorEq, Int.reduceNeg, Int.reduceToNat, Int.reduceLT, Int.reduceLE, Int.reduceGE, Int.reduceGT, Int.reduceEq]
      refine ACs.pure hE ?_
      simp (dsimp := false) only [go_sem, ↓reduceIte, Nat.reduceEqDiff, Nat.reduceLT, Nat.reduceAdd, Nat.reduceSub, Nat.reduceMul, Nat.reduceLeDiff, reduceCtorEq, Int.reduceNeg, Int.reduceToNat, Int.reduceLT, Int.reduceLE, Int.reduceGE, Int.reduceGT, Int.reduceEq]
      (try refine ACs.pure hV ?_)
      (try refine ACs.pure hM ?_)
      simp (dsimp := false) only [go_sem, ↓reduceIte, Nat.reduceEqDiff, Nat.reduceLT, Nat.reduceAdd, Nat.reduceSub, Nat.reduceMul, Nat.reduceLeDiff, reduceCtorEq, Int.reduceNeg, Int.reduceToNat, Int.reduceLT, Int.reduceLE, Int.reduceGE, Int.reduceGT, Int.reduceEq, hc]
      exact ⟨_, nil3⟩
    · have hS : slE lt x ti ad tm k = 0 := by rw [slE, if_pos h0, if_neg hc]
      have hB : boxE kind k (conB lt x ti ad tm) = 0 := by rw [boxE, if_neg (by rw [hkd]; decide), if_neg hc, if_neg (by omega)]
      rw [boxM, hB, if_pos rfl] at hM
      rw [hS, if_pos rfl, if_pos rfl]
      obtain ⟨B, hBB⟩ : ∃ B, conB lt x ti ad tm = B := ⟨_, rfl⟩
      rw [hBB] at hE hM ⊢
      unfold conA at hE ⊢
      refine AC.of_body (M := []) Tryz.func161 rfl (by kernel_rfl) (Nat.le_of_ble_eq_true rfl) ?_; simp only [Tryz.results161, Tryz.ntmps161]
      simp (dsimp := false) only [go_sem, ↓reduceIte, Nat.reduceEqDiff, Nat.reduceLT, Nat.reduceAdd, Nat.reduceSub, Nat.reduceMul, Nat.reduceLeDiff, reduceCtorEq, Int.reduceNeg, Int.reduceToNat, Int.reduceLT, Int.reduceLE, Int.reduceGE, Int.reduceGT, Int.reduceEq]
      refine ACs.pure hE ?_
      simp (dsimp := false) only [go_sem, ↓reduceIte, Nat.reduceEqDiff, Nat.reduceLT, Nat.reduceAdd, Nat.reduceSub, Nat.reduceMul, Nat.reduceLeDiff, reduceCtorEq, Int.reduceNeg, Int.reduceToNat, Int.reduceLT, Int.reduceLE, Int.reduceGE, Int.reduceGT, Int.reduceEq]
      (try (refine ACs.pure hV ?_; simp (dsimp := false) only [go_sem, ↓reduceIte, Nat.reduceEqDiff, Nat.reduceLT, Nat.reduceAdd, Nat.reduceSub, Nat.reduceMul, Nat.reduceLeDiff, reduceCtorEq, Int.reduceNeg, Int.reduceToNat, Int.reduceLT, Int.reduceLE, Int.reduceGE, Int.reduceGT, Int.reduceEq, hc]))
      refine ACs.pure hM ?_
      simp (dsimp := false) only [go_sem, ↓reduceIte, Nat.reduceEqDiff, Nat.reduceLT, Nat.reduceAdd, Nat.reduceSub, Nat.reduceMul, Nat.reduceLeDiff, reduceCtorEq, Int.reduceNeg, Int.reduceToNat, Int.reduceLT, Int.reduceLE, Int.reduceGE, Int.reduceGT, Int.reduceEq]
      exact ⟨_, Weak1.refl _ _⟩
  · have hS : slE lt x ti ad tm k = conChk lt x ti ad tm := by rw [slE, if_neg h0]
    rw [conE, if_neg h0] at hE
    rw [hS, if_neg h0, if_neg h0]
    unfold conA at hE ⊢
    refine AC.of_body (M := []) Tryz.func161 rfl (by kernel_rfl) (Nat.le_of_ble_eq_true rfl) ?_; simp only [Tryz.results161, Tryz.ntmps161]
    simp (dsimp := false) only [go_sem, ↓reduceIte, Nat.reduceEqDiff, Nat.reduceLT, Nat.reduceAdd, Nat.reduceSub, Nat.reduceMul, Nat.reduceLeDiff, reduceCtorEq, Int.reduceNeg, Int.reduceToNat, Int.reduceLT, Int.reduceLE, Int.reduceGE, Int.reduceGT, Int.reduceEq]
    refine ACs.pure hE ?_
    simp (dsimp := false) only [go_sem, ↓reduceIte, Nat.reduceEqDiff, Nat.reduceLT, Nat.reduceAdd, Nat.reduceSub, Nat.reduceMul, Nat.reduceLeDiff, reduceCtorEq, Int.reduceNeg, Int.reduceToNat, Int.reduceLT, Int.reduceLE, Int.reduceGE, Int.reduceGT, Int.reduceEq, h0]
    exact ⟨_, nil3⟩
set_option maxHeartbeats 4000000 in
theorem rseal11_pure (kind : Int) (lt : Bool) (x : List UInt8) (ti ad tm k : Int) (hx : x.length ≤ 50000) (hk0 : 0 ≤ k) (hk1 : k < 18446744073709551616) (hkd : kindB kind = true) :
    PC Tryz.prog 109 [conA lt x ti ad tm, .raw (.bool lt), .raw (.int .i64 kind), .raw (.int .u64 k)] (slA kind lt x ti ad tm k) := by
  refine PC.post ?_
  have hE := rconEncode_pure lt x ti ad tm (by omega)
  have hl := conB_length lt x ti ad tm
  have hM := rboxMake_pure kind k (conB lt x ti ad tm) hk0 hk1 (by omega)
  
  unfold slA
  by_cases h0 : conChk lt x ti ad tm = 0
  · have hx' := conChk_ok h0
    rw [conE, h0, if_pos rfl] at hE
    by_cases hc : clsZ k = 0
    · have hS : slE lt x ti ad tm k = 10 := by rw [slE, if_pos h0, if_pos hc]
      have hB : boxE kind k (conB lt x ti ad tm) = 10 := by rw [boxE, if_neg (by rw [hkd]; decide), if_pos hc]
      rw [boxM, hB, if_neg (by decide)] at hM
      rw [hS, if_neg (by decide), if_neg (by decide)]
      unfold conA at hE ⊢
      refine AC.of_body (M := []) Tryz.func109 rfl (by kernel_rfl) (Nat.le_of_ble_eq_true rfl) ?_; simp only [Tryz.results109, Tryz.ntmps109]
      simp (dsimp := false) only [go_sem, ↓reduceIte, Nat.reduceEqDiff, Nat.reduceLT, Nat.reduceAdd, Nat.reduceSub, Nat.reduceMul, Nat.reduceLeDiff, reduceCtorEq, Int.reduceNeg, Int.reduceToNat, Int.reduceLT, Int.reduceLE, Int.reduceGE, Int.reduceGT, Int.reduceEq]
      refine ACs.pure hE ?_
      simp (dsimp := false) only [go_sem, ↓reduceIte, Nat.reduceEqDiff, Nat.reduceLT, Nat.reduceAdd, Nat.reduceSub, Nat.reduceMul, Nat.reduceLeDiff, reduceCtorEq, Int.reduceNeg, Int.reduceToNat, Int.reduceLT, Int.reduceLE, Int.reduceGE, Int.reduceGT, Int.reduceEq]
      (try refine ACs.pure hV ?_)
      (try refine ACs.pure hM ?_)
      simp (dsimp := false) only [go_sem, ↓reduceIte, Nat.reduceEqDiff, Nat.reduceLT, Nat.reduceAdd, Nat.reduceSub, Nat.reduceMul, Nat.reduceLeDiff, reduceCtorEq, Int.reduceNeg, Int.reduceToNat, Int.reduceLT, Int.reduceLE, Int.reduceGE, Int.reduceGT, Int.reduceEq, hc]
      exact ⟨_, nil3⟩
    · have hS : slE lt x ti ad tm k = 0 := by rw [slE, if_pos h0, if_neg hc]
      have hB : boxE kind k (conB lt x ti ad tm) = 0 := by rw [boxE, if_neg (by rw [hkd]; decide), if_neg hc, if_neg (by omega)]
      rw [boxM, hB, if_pos rfl] at hM
      rw [hS, if_pos rfl, if_pos rfl]
      obtain ⟨B, hBB⟩ : ∃ B, conB lt x ti ad tm = B := ⟨_, rfl⟩
      rw [hBB] at hE hM ⊢
      unfold conA at hE ⊢
      refine AC.of_body (M := []) Tryz.func109 rfl (by kernel_rfl) (Nat.le_of_ble_eq_true rfl) ?_; simp only [Tryz.results109, Tryz.ntmps109]
      simp (dsimp := false) only [go_sem, ↓reduceIte, Nat.reduceEqDiff, Nat.reduceLT, Nat.reduceAdd, Nat.reduceSub, Nat.reduceMul, Nat.reduceLeDiff, reduceCtorEq, Int.reduceNeg, Int.reduceToNat, Int.reduceLT, Int.reduceLE, Int.reduceGE, Int.reduceGT, Int.reduceEq]
      refine ACs.pure hE ?_
      simp (dsimp := false) only [go_sem, ↓reduceIte, Nat.reduceEqDiff, Nat.reduceLT, Nat.reduceAdd, Nat.reduceSub, Nat.reduceMul, Nat.reduceLeDiff, reduceCtorEq, Int.reduceNeg, Int.reduceToNat, Int.reduceLT, Int.reduceLE, Int.reduceGE, Int.reduceGT, Int.reduceEq]
      (try (refine ACs.pure hV ?_; simp (dsimp := false) only [go_sem, ↓reduceIte, Nat.reduceEqDiff, Nat.reduceLT, Nat.reduceAdd, Nat.reduceSub, Nat.reduceMul, Nat.reduceLeDiff, reduceCtorEq, Int.reduceNeg, Int.reduceToNat, Int.reduceLT, Int.reduceLE, Int.reduceGE, Int.reduceGT, Int.reduceEq, hc]))
      refine ACs.pure hM ?_
      simp (dsimp := false) only [go_sem, ↓reduceIte, Nat.reduceEqDiff, Nat.reduceLT, Nat.reduceAdd, Nat.reduceSub, Nat.reduceMul, Nat.reduceLeDiff, reduceCtorEq, Int.reduceNeg, Int.reduceToNat, Int.reduceLT, Int.reduceLE, Int.reduceGE, Int.reduceGT, Int.reduceEq]
      exact ⟨_, Weak1.refl _ _⟩
  · have hS : slE lt x ti ad tm k = conChk lt x ti ad tm := by rw [slE, if_neg h0]
    rw [conE, if_neg h0] at hE
    rw [hS, if_neg h0, if_neg h0]
    unfold conA at hE ⊢
    refine AC.of_body (M := []) Tryz.func109 rfl (by kernel_rfl) (Nat.le_of_ble_eq_true rfl) ?_; simp only [Tryz.results109, Tryz.ntmps109]
    simp (dsimp := false) only [go_sem, ↓reduceIte, Nat.reduceEqDiff, Nat.reduceLT, Nat.reduceAdd, Nat.reduceSub, Nat.reduceMul, Nat.reduceLeDiff, reduceCtorEq, Int.reduceNeg, Int.reduceToNat, Int.reduceLT, Int.reduceLE, Int.reduceGE, Int.reduceGT, Int.reduceEq]
    refine ACs.pure hE ?_
    simp (dsimp := false) only [go_sem, ↓reduceIte, Nat.reduceEqDiff, Nat.reduceLT, Nat.reduceAdd, Nat.reduceSub, Nat.reduceMul, Nat.reduceLeDiff, reduceCtorEq, Int.reduceNeg, Int.reduceToNat, Int.reduceLT, Int.reduceLE, Int.reduceGE, Int.reduceGT, Int.reduceEq, h0]
    exact ⟨_, nil3⟩
set_option maxHeartbeats 4000000 in
theorem MakeSafe_pure (lt : Bool) (x : List UInt8) (ti ad tm k : Int) (hx : x.length ≤ 50000) (hk0 : 0 ≤ k) (hk1 : k < 18446744073709551616) :
    PC Tryz.prog 107 [conA lt x ti ad tm, .raw (.bool lt), .raw (.int .u64 k)] (mkA true lt x ti ad tm k) := by
  refine PC.post ?_
  have hS := seal11_pure 6 lt x ti ad tm k hx hk0 hk1 (by decide)
  have hl := conB_length lt x ti ad tm
  unfold slA at hS
  unfold mkA
  by_cases h0 : slE lt x ti ad tm k = 0
  · rw [h0, if_pos rfl, if_pos rfl] at hS
    rw [h0, if_pos rfl, mkB, if_pos rfl, safB, safF]
    obtain ⟨B, hBB⟩ : ∃ B, conB lt x ti ad tm = B := ⟨_, rfl⟩
    rw [hBB] at hS hl ⊢
    have hbl := boxB_length 6 k B
    obtain ⟨X, hXX⟩ : ∃ X, boxB 6 k B = X := ⟨_, rfl⟩
    rw [hXX] at hS hbl ⊢
    have hm := message2_pure 7 lt B X (by decide) (by omega) (by omega)
    unfold conA at hS ⊢
    refine AC.of_body (M := []) Tryz.func107 rfl (by kernel_rfl) (Nat.le_of_ble_eq_true rfl) ?_; simp only [Tryz.results107, Tryz.ntmps107]
    simp (dsimp := false) only [go_sem, ↓reduceIte, Nat.reduceEqDiff, Nat.reduceLT, Nat.reduceAdd, Nat.reduceSub, Nat.reduceMul, Nat.reduceLeDiff, reduceCtorEq, Int.reduceNeg, Int.reduceToNat, Int.reduceLT, Int.reduceLE, Int.reduceGE, Int.reduceGT, Int.reduceEq]
    refine ACs.pure hS ?_
    simp (dsimp := false) only [go_sem, ↓reduceIte, Nat.reduceEqDiff, Nat.reduceLT, Nat.reduceAdd, Nat.reduceSub, Nat.reduceMul, Nat.reduceLeDiff, reduceCtorEq, Int.reduceNeg, Int.reduceToNat, Int.reduceLT, Int.reduceLE, Int.reduceGE, Int.reduceGT, Int.reduceEq]
    refine ACs.pure hm ?_
    simp (dsimp := false) only [go_sem, ↓reduceIte, Nat.reduceEqDiff, Nat.reduceLT, Nat.reduceAdd, Nat.reduceSub, Nat.reduceMul, Nat.reduceLeDiff, reduceCtorEq, Int.reduceNeg, Int.reduceToNat, Int.reduceLT, Int.reduceLE, Int.reduceGE, Int.reduceGT, Int.reduceEq]
    exact ⟨_, Weak1.refl _ _⟩
  · rw [if_neg h0] at hS
    rw [if_neg h0]
    unfold conA at hS ⊢
    refine AC.of_body (M := []) Tryz.func107 rfl (by kernel_rfl) (Nat.le_of_ble_eq_true rfl) ?_; simp only [Tryz.results107, Tryz.ntmps107]
    simp (dsimp := false) only [go_sem, ↓reduceIte, Nat.reduceEqDiff, Nat.reduceLT, Nat.reduceAdd, Nat.reduceSub, Nat.reduceMul, Nat.reduceLeDiff, reduceCtorEq, Int.reduceNeg, Int.reduceToNat, Int.reduceLT, Int.reduceLE, Int.reduceGE, Int.reduceGT, Int.reduceEq]
    refine ACs.pure hS ?_
    simp (dsimp := false) only [go_sem, ↓reduceIte, Nat.reduceEqDiff, Nat.reduceLT, Nat.reduceAdd, Nat.reduceSub, Nat.reduceMul, Nat.reduceLeDiff, reduceCtorEq, Int.reduceNeg, Int.reduceToNat, Int.reduceLT, Int.reduceLE, Int.reduceGE, Int.reduceGT, Int.reduceEq, h0]
    exact ⟨_, Weak1.nil2⟩
set_option maxHeartbeats 4000000 in
theorem rMakePrivate_pure (lt : Bool) (x : List UInt8) (ti ad tm k : Int) (hx : x.length ≤ 50000) (hk0 : 0 ≤ k) (hk1 : k < 18446744073709551616) :
    PC Tryz.prog 46 [conA lt x ti ad tm, .raw (.bool lt), .raw (.int .u64 k)] (mkA false lt x ti ad tm k) := by
  refine PC.post ?_
  have hS := rseal11_pure 5 lt x ti ad tm k hx hk0 hk1 (by decide)
  have hl := conB_length lt x ti ad tm
  unfold slA at hS
  unfold mkA
  by_cases h0 : slE lt x ti ad tm k = 0
  · rw [h0, if_pos rfl, if_pos rfl] at hS
    rw [h0, if_pos rfl, mkB, if_neg (by decide), prvB, prvF]
    obtain ⟨B, hBB⟩ : ∃ B, conB lt x ti ad tm = B := ⟨_, rfl⟩
    rw [hBB] at hS hl ⊢
    have hbl := boxB_length 5 k B
    obtain ⟨X, hXX⟩ : ∃ X, boxB 5 k B = X := ⟨_, rfl⟩
    rw [hXX] at hS hbl ⊢
    have hh := rhdPut_pure 6 lt (by decide)
    have hp := put11_pure (hdB 6 lt) X lt (by rw [hdB_length]; decide) (by omega)
    rw [List.append_assoc] at hp
    unfold conA at hS ⊢
    refine AC.of_body (M := []) Tryz.func46 rfl (by kernel_rfl) (Nat.le_of_ble_eq_true rfl) ?_; simp only [Tryz.results46, Tryz.ntmps46]
    simp (dsimp := false) only [go_sem, ↓reduceIte, Nat.reduceEqDiff, Nat.reduceLT, Nat.reduceAdd, Nat.reduceSub, Nat.reduceMul, Nat.reduceLeDiff, reduceCtorEq, Int.reduceNeg, Int.reduceToNat, Int.reduceLT, Int.reduceLE, Int.reduceGE, Int.reduceGT, Int.reduceEq]
    refine ACs.pure hS ?_
    simp (dsimp := false) only [go_sem, ↓reduceIte, Nat.reduceEqDiff, Nat.reduceLT, Nat.reduceAdd, Nat.reduceSub, Nat.reduceMul, Nat.reduceLeDiff, reduceCtorEq, Int.reduceNeg, Int.reduceToNat, Int.reduceLT, Int.reduceLE, Int.reduceGE, Int.reduceGT, Int.reduceEq]
    refine ACs.pure hh ?_
    simp (dsimp := false) only [go_sem, ↓reduceIte, Nat.reduceEqDiff, Nat.reduceLT, Nat.reduceAdd, Nat.reduceSub, Nat.reduceMul, Nat.reduceLeDiff, reduceCtorEq, Int.reduceNeg, Int.reduceToNat, Int.reduceLT, Int.reduceLE, Int.reduceGE, Int.reduceGT, Int.reduceEq]
    refine ACs.pure hp ?_
    simp (dsimp := false) only [go_sem, ↓reduceIte, Nat.reduceEqDiff, Nat.reduceLT, Nat.reduceAdd, Nat.reduceSub, Nat.reduceMul, Nat.reduceLeDiff, reduceCtorEq, Int.reduceNeg, Int.reduceToNat, Int.reduceLT, Int.reduceLE, Int.reduceGE, Int.reduceGT, Int.reduceEq]
    exact ⟨_, Weak1.refl _ _⟩
  · rw [if_neg h0] at hS
    rw [if_neg h0]
    unfold conA at hS ⊢
    refine AC.of_body (M := []) Tryz.func46 rfl (by kernel_rfl) (Nat.le_of_ble_eq_true rfl) ?_; simp only [Tryz.results46, Tryz.ntmps46]
    simp (dsimp := false) only [go_sem, ↓reduceIte, Nat.reduceEqDiff, Nat.reduceLT, Nat.reduceAdd, Nat.reduceSub, Nat.reduceMul, Nat.reduceLeDiff, reduceCtorEq, Int.reduceNeg, Int.reduceToNat, Int.reduceLT, Int.reduceLE, Int.reduceGE, Int.reduceGT, Int.reduceEq]
    refine ACs.pure hS ?_
    simp (dsimp := false) only [go_sem, ↓reduceIte, Nat.reduceEqDiff, Nat.reduceLT, Nat.reduceAdd, Nat.reduceSub, Nat.reduceMul, Nat.reduceLeDiff, reduceCtorEq, Int.reduceNeg, Int.reduceToNat, Int.reduceLT, Int.reduceLE, Int.reduceGE, Int.reduceGT, Int.reduceEq, h0]
    exact ⟨_, Weak1.nil2⟩
set_option maxHeartbeats 4000000 in
theorem rMakeSafe_pure (lt : Bool) (x : List UInt8) (ti ad tm k : Int) (hx : x.length ≤ 50000) (hk0 : 0 ≤ k) (hk1 : k < 18446744073709551616) :
    PC Tryz.prog 47 [conA lt x ti ad tm, .raw (.bool lt), .raw (.int .u64 k)] (mkA true lt x ti ad tm k) := by
  refine PC.post ?_
  have hS := rseal11_pure 6 lt x ti ad tm k hx hk0 hk1 (by decide)
  have hl := conB_length lt x ti ad tm
  unfold slA at hS
  unfold mkA
  by_cases h0 : slE lt x ti ad tm k = 0
  · rw [h0, if_pos rfl, if_pos rfl] at hS
    rw [h0, if_pos rfl, mkB, if_pos rfl, safB, safF]
    obtain ⟨B, hBB⟩ : ∃ B, conB lt x ti ad tm = B := ⟨_, rfl⟩
    rw [hBB] at hS hl ⊢
    have hbl := boxB_length 6 k B
    obtain ⟨X, hXX⟩ : ∃ X, boxB 6 k B = X := ⟨_, rfl⟩
    rw [hXX] at hS hbl ⊢
    have hh := rhdPut_pure 7 lt (by decide)
    have hp := put11_pure (hdB 7 lt) B lt (by rw [hdB_length]; decide) (by omega)
    have hp2 := put11_pure (hdB 7 lt ++ numB B.length 2 lt ++ B) X lt (by simp only [List.length_append, hdB_length, numB_length]; omega) (by omega)
    rw [show hdB 7 lt ++ numB (B.length : Int) 2 lt ++ B ++ numB (X.length : Int) 2 lt ++ X = hdB 7 lt ++ (numB (B.length : Int) 2 lt ++ B ++ numB (X.length : Int) 2 lt ++ X) by simp only [List.append_assoc]] at hp2
    unfold conA at hS ⊢
    refine AC.of_body (M := []) Tryz.func47 rfl (by kernel_rfl) (Nat.le_of_ble_eq_true rfl) ?_; simp only [Tryz.results47, Tryz.ntmps47]
    simp (dsimp := false) only [go_sem, ↓reduceIte, Nat.reduceEqDiff, Nat.reduceLT, Nat.reduceAdd, Nat.reduceSub, Nat.reduceMul, Nat.reduceLeDiff, reduceCtorEq, Int.reduceNeg, Int.reduceToNat, Int.reduceLT, Int.reduceLE, Int.reduceGE, Int.reduceGT, Int.reduceEq]
    refine ACs.pure hS ?_
    simp (dsimp := false) only [go_sem, ↓reduceIte, Nat.reduceEqDiff, Nat.reduceLT, Nat.reduceAdd, Nat.reduceSub, Nat.reduceMul, Nat.reduceLeDiff, reduceCtorEq, Int.reduceNeg, Int.reduceToNat, Int.reduceLT, Int.reduceLE, Int.reduceGE, Int.reduceGT, Int.reduceEq]
    refine ACs.pure hh ?_
    simp (dsimp := false) only [go_sem, ↓reduceIte, Nat.reduceEqDiff, Nat.reduceLT, Nat.reduceAdd, Nat.reduceSub, Nat.reduceMul, Nat.reduceLeDiff, reduceCtorEq, Int.reduceNeg, Int.reduceToNat, Int.reduceLT, Int.reduceLE, Int.reduceGE, Int.reduceGT, Int.reduceEq]
    refine ACs.pure hp ?_
    simp (dsimp := false) only [go_sem, ↓reduceIte, Nat.reduceEqDiff, Nat.reduceLT, Nat.reduceAdd, Nat.reduceSub, Nat.reduceMul, Nat.reduceLeDiff, reduceCtorEq, Int.reduceNeg, Int.reduceToNat, Int.reduceLT, Int.reduceLE, Int.reduceGE, Int.reduceGT, Int.reduceEq]
    refine ACs.pure hp2 ?_
    simp (dsimp := false) only [go_sem, ↓reduceIte, Nat.reduceEqDiff, Nat.reduceLT, Nat.reduceAdd, Nat.reduceSub, Nat.reduceMul, Nat.reduceLeDiff, reduceCtorEq, Int.reduceNeg, Int.reduceToNat, Int.reduceLT, Int.reduceLE, Int.reduceGE, Int.reduceGT, Int.reduceEq]
    exact ⟨_, Weak1.refl _ _⟩
  · rw [if_neg h0] at hS
    rw [if_neg h0]
    unfold conA at hS ⊢
    refine AC.of_body (M := []) Tryz.func47 rfl (by kernel_rfl) (Nat.le_of_ble_eq_true rfl) ?_; simp only [Tryz.results47, Tryz.ntmps47]
    simp (dsimp := false) only [go_sem, ↓reduceIte, Nat.reduceEqDiff, Nat.reduceLT, Nat.reduceAdd, Nat.reduceSub, Nat.reduceMul, Nat.reduceLeDiff, reduceCtorEq, Int.reduceNeg, Int.reduceToNat, Int.reduceLT, Int.reduceLE, Int.reduceGE, Int.reduceGT, Int.reduceEq]
    refine ACs.pure hS ?_
    simp (dsimp := false) only [go_sem, ↓reduceIte, Nat.reduceEqDiff, Nat.reduceLT, Nat.reduceAdd, Nat.reduceSub, Nat.reduceMul, Nat.reduceLeDiff, reduceCtorEq, Int.reduceNeg, Int.reduceToNat, Int.reduceLT, Int.reduceLE, Int.reduceGE, Int.reduceGT, Int.reduceEq, h0]
    exact ⟨_, Weak1.nil2⟩
end Go.Proofs.YtghnigbihllnmaaGreat.Fn
