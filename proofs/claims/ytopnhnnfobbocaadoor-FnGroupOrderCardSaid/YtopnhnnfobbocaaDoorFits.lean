/- Arguments of laws: rows of texts, rows of rows; with no condition. -/
import Derived.Test.YtopnhnnfobbocaaDoorClone
import Derived.KernelRfl
namespace Go.Gw
open Go Go.Proofs
set_option linter.unusedSimpArgs false
set_option linter.unusedVariables false
set_option maxRecDepth 100000

def lenOf : PV → Nat
  | .sl _ _ n _ => n
  | _ => 0
end Go.Gw
