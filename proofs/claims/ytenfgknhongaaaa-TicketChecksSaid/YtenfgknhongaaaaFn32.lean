/- The reference decodes tickets. -/
import Derived.Test.YtenfgknhongaaaaFn31
set_option linter.unusedVariables false
set_option linter.unusedSimpArgs false
namespace Go.Proofs.Ytenfgknhongaaaa.Fn
open Go Hl Sp Ty
set_option maxRecDepth 100000
end Go.Proofs.Ytenfgknhongaaaa.Fn
