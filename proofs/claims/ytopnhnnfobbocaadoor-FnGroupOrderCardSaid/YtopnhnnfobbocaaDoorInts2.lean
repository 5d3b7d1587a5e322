/- Rows of whole numbers: compared, written over, read again; with no condition. -/
import Derived.KernelRfl
import Derived.Test.YtopnhnnfobbocaaDoorInts
namespace Go.Gw
open Go Go.Proofs
set_option linter.unusedSimpArgs false
set_option linter.unusedVariables false
set_option maxRecDepth 100000
/-! ### eqIntS -/
/-! ### markIntS -/
/-! ### heldIntS -/
end Go.Gw
