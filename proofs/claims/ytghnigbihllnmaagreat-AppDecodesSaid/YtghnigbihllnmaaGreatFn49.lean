/- The law on TGS requests. -/
import Derived.Test.YtghnigbihllnmaaGreatFn48
import Derived.Test.YtghnigbihllnmaaGreatFn33
set_option linter.unusedVariables false
set_option linter.unusedSimpArgs false
namespace Go.Proofs.YtghnigbihllnmaaGreat.Fn
open Go Hl Sp Ty
set_option maxRecDepth 100000
end Go.Proofs.YtghnigbihllnmaaGreat.Fn
