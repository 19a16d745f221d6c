/- The laws on sealed authenticators. -/
import Derived.Test.YtenfgknhongaaaaFn28
set_option linter.unusedVariables false
set_option linter.unusedSimpArgs false
namespace Go.Proofs.Ytenfgknhongaaaa.Fn
open Go Hl Sp Ty
set_option maxRecDepth 100000
end Go.Proofs.Ytenfgknhongaaaa.Fn
