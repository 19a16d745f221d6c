/- The reference's reader of principals. -/
import Derived.Test.YtaokfnfaipdpdaaFn9
set_option linter.unusedVariables false
set_option linter.unusedSimpArgs false
namespace Go.Proofs.Ytaokfnfaipdpdaa.Fn
open Go Hl Sp Ty

theorem move_at {own : Own} {k k' j : Nat} {o : OB} (h : j ≠ k') (h' : j ≠ k) : own.move k k' o j = own j := by
  simp only [Own.move]; rw [if_neg h, if_neg h']
end Go.Proofs.Ytaokfnfaipdpdaa.Fn
