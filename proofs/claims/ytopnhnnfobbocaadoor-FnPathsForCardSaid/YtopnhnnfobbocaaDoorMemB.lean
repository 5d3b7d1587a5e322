/- The ground that memories stand on; with no condition. -/
import Derived.Test.YtopnhnnfobbocaaDoorTabV
import Derived.KernelRfl
namespace Go.Gw
open Go Go.Proofs
set_option linter.unusedSimpArgs false
set_option linter.unusedVariables false
set_option maxRecDepth 100000
end Go.Gw
