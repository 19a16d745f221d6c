/- The reference's reader of texts. -/
import Derived.Test.YtghnigbihllnmaaHlC
import Derived.Test.YtghnigbihllnmaaSp1
import Derived.Test.YtghnigbihllnmaaTy
import Derived.Test.YtghnigbihllnmaaFn1
import Derived.Test.YtghnigbihllnmaaFn3
set_option linter.unusedVariables false
set_option linter.unusedSimpArgs false
namespace Go.Proofs.Ytghnigbihllnmaa.Fn
open Go Hl Sp Ty

theorem ib_app (c : UInt8) (m : List UInt8) : ∀ l : List UInt8, Lib.indexByte l c = -1 → Lib.indexByte (l ++ m) c = if Lib.indexByte m c = -1 then -1 else l.length + Lib.indexByte m c
  | [], _ => by
    simp only [List.nil_append, List.length_nil]
    split
    · assumption
    · omega
  | b :: l, h => by
    have hm := indexByte_le m c
    have hl := indexByte_le l c
    unfold Lib.indexByte at h
    simp only [List.cons_append]
    rw [Lib.indexByte]
    by_cases hb : (b == c) = true
    · rw [if_pos hb] at h; omega
    · rw [if_neg hb] at h ⊢
      have h1 : Lib.indexByte l c = -1 := by
        by_cases h2 : (Lib.indexByte l c == -1) = true
        · simpa using h2
        · rw [if_neg h2] at h; omega
      rw [ib_app c m l h1]
      simp only [List.length_cons]
      by_cases h3 : Lib.indexByte m c = -1
      · rw [if_pos h3, if_pos h3, if_pos (by decide)]
      · rw [if_neg h3, if_neg h3, if_neg (by simp; omega)]; omega
theorem ib_snoc (l : List UInt8) (b c : UInt8) (h : Lib.indexByte l c = -1) (hb : b ≠ c) : Lib.indexByte (l ++ [b]) c = -1 := by
  rw [ib_app c [b] l h, if_pos (by simp [Lib.indexByte, hb])]
theorem ib_hit (l m : List UInt8) (c : UInt8) (h : Lib.indexByte l c = -1) : Lib.indexByte (l ++ c :: m) c = l.length := by
  rw [ib_app c (c :: m) l h, if_neg (by simp [Lib.indexByte])]
  simp [Lib.indexByte]

end Go.Proofs.Ytghnigbihllnmaa.Fn
