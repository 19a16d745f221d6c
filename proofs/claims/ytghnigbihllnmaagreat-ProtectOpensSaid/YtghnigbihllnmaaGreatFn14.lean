/- The law on which authenticators are valid. -/
import Derived.Test.YtghnigbihllnmaaGreatHlC
import Derived.Test.YtghnigbihllnmaaGreatSp1
import Derived.Test.YtghnigbihllnmaaGreatTy
import Derived.Test.YtghnigbihllnmaaGreatFn8
import Derived.Test.YtghnigbihllnmaaGreatFn12
import Derived.Test.YtghnigbihllnmaaGreatFn13
set_option linter.unusedVariables false
set_option linter.unusedSimpArgs false
namespace Go.Proofs.YtghnigbihllnmaaGreat.Fn
open Go Hl Sp Ty
set_option maxRecDepth 100000

def longB (n i r : ByteArray) : Bool := decide ((n.size : Int) > 100) || decide ((i.size : Int) > 100) || decide ((r.size : Int) > 100)
theorem tmod_cases5 {f : Int} (h : 0 ≤ f) : f.tmod 5 = 0 ∨ f.tmod 5 = 1 ∨ f.tmod 5 = 2 ∨ f.tmod 5 = 3 ∨ f.tmod 5 = 4 := by
  rw [Int.tmod_eq_emod_of_nonneg h]; omega
end Go.Proofs.YtghnigbihllnmaaGreat.Fn
