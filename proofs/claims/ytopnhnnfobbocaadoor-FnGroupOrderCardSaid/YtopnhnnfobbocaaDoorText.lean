/- Texts in rows: copied, compared, written over, read again; with no condition. -/
import Derived.Test.YtopnhnnfobbocaaDoorNames
import Derived.KernelRfl
namespace Go.Gw
open Go Go.Proofs
set_option linter.unusedSimpArgs false
set_option linter.unusedVariables false
set_option maxRecDepth 100000
abbrev TR (f : Nat → ByteArray) : Nat → Nat → PV := fun i _ => PT (f i)
/-! ### markText -/
def sumN (w : Nat → Nat) : Nat → Nat
  | 0 => 0
  | k + 1 => sumN w k + w k
end Go.Gw
