/- The reference decodes tickets. -/
import Derived.Test.YtghnigbihllnmaaGreatHlC
import Derived.Test.YtghnigbihllnmaaGreatSp1
import Derived.Test.YtghnigbihllnmaaGreatTy
import Derived.Test.YtghnigbihllnmaaGreatFn1
import Derived.Test.YtghnigbihllnmaaGreatFn9
import Derived.Test.YtghnigbihllnmaaGreatFn15
import Derived.Test.YtghnigbihllnmaaGreatFn21
import Derived.Test.YtghnigbihllnmaaGreatFn24
import Derived.Test.YtghnigbihllnmaaGreatFn25
import Derived.Test.YtghnigbihllnmaaGreatFn26
import Derived.Test.YtghnigbihllnmaaGreatFn30
import Derived.Test.YtghnigbihllnmaaGreatFn31
set_option linter.unusedVariables false
set_option linter.unusedSimpArgs false
namespace Go.Proofs.YtghnigbihllnmaaGreat.Fn
open Go Hl Sp Ty
set_option maxRecDepth 100000
end Go.Proofs.YtghnigbihllnmaaGreat.Fn
