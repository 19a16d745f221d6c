/- The reference decodes tickets. -/
import Derived.Test.YtghnigbihllnmaaHlC
import Derived.Test.YtghnigbihllnmaaSp1
import Derived.Test.YtghnigbihllnmaaTy
import Derived.Test.YtghnigbihllnmaaFn1
import Derived.Test.YtghnigbihllnmaaFn9
import Derived.Test.YtghnigbihllnmaaFn15
import Derived.Test.YtghnigbihllnmaaFn21
import Derived.Test.YtghnigbihllnmaaFn24
import Derived.Test.YtghnigbihllnmaaFn25
import Derived.Test.YtghnigbihllnmaaFn26
import Derived.Test.YtghnigbihllnmaaFn30
import Derived.Test.YtghnigbihllnmaaFn31
set_option linter.unusedVariables false
set_option linter.unusedSimpArgs false
namespace Go.Proofs.Ytghnigbihllnmaa.Fn
open Go Hl Sp Ty
set_option maxRecDepth 100000
end Go.Proofs.Ytghnigbihllnmaa.Fn
