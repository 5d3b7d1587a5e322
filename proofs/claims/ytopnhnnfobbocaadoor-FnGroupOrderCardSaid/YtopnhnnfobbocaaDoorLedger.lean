/- Ledgers: copied, compared, valid; with no condition. -/
import Derived.KernelRfl
import Derived.Test.YtopnhnnfobbocaaDoorInts2
namespace Go.Gw
open Go Go.Proofs
set_option linter.unusedSimpArgs false
set_option linter.unusedVariables false
set_option maxRecDepth 100000


theorem int_cells (f : Nat → Int) (n : Nat) : IntCells 1 n (fun i _ => PI (f i)) := fun _ _ _ _ => rfl
/-! ### LedgerValid -/
def allB (p : Nat → Bool) : Nat → Bool
  | 0 => true
  | k + 1 => allB p k && p k
theorem allB_iff {p : Nat → Bool} : ∀ {k : Nat}, allB p k = true ↔ ∀ i, i < k → p i = true
  | 0 => by simp [allB]
  | k + 1 => by
    simp only [allB, Bool.and_eq_true, allB_iff (k := k)]
    constructor
    · intro ⟨h1, h2⟩ i hi
      by_cases h : i = k
      · subst h; exact h2
      · exact h1 i (by omega)
    · intro h; exact ⟨fun i hi => h i (by omega), h k (by omega)⟩
end Go.Gw
