/- The law of the writers: what wakes it, and its own body. -/
import Derived.Test.YtaokfnfaipdpdaaFn3
set_option linter.unusedVariables false
set_option linter.unusedSimpArgs false
namespace Go.Proofs.Ytaokfnfaipdpdaa.Fn
open Go Hl Sp Ty
end Go.Proofs.Ytaokfnfaipdpdaa.Fn
