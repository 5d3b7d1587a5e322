/- Ledgers: copied, compared, valid; with no condition. -/
import Derived.KernelRfl
import Derived.Test.YtopnhnnfobbocaaDoorInts2
namespace Go.Gw
open Go Go.Proofs
set_option linter.unusedSimpArgs false
set_option linter.unusedVariables false
set_option maxRecDepth 100000


abbrev LG (b : Int) (nn : Bool) (n : Nat) (g : Nat → Nat → PV) : AV := .ag [AI b, SL nn 1 n g]

theorem int_cells (f : Nat → Int) (n : Nat) : IntCells 1 n (fun i _ => PI (f i)) := fun _ _ _ _ => rfl
/-! ### LedgerValid -/
def sumF (f : Nat → Int) : Nat → Int
  | 0 => 0
  | k + 1 => sumF f k + f k
def allB (p : Nat → Bool) : Nat → Bool
  | 0 => true
  | k + 1 => allB p k && p k
theorem allB_iff {p : Nat → Bool} : ∀ {k : Nat}, allB p k = true ↔ ∀ i, i < k → p i = true
  | 0 => by simp [allB]
  | k + 1 => by
    simp only [allB, Bool.and_eq_true, allB_iff (k := k)]
    constructor
    · intro ⟨h1, h2⟩ i hi
      by_cases h : i = k
      · subst h; exact h2
      · exact h1 i (by omega)
    · intro h; exact ⟨fun i hi => h i (by omega), h k (by omega)⟩
theorem allB_congr {p q : Nat → Bool} : ∀ {k : Nat}, (∀ i, i < k → p i = q i) → allB p k = allB q k
  | 0, _ => rfl
  | k + 1, h => by simp only [allB]; rw [allB_congr fun i hi => h i (by omega), h k (by omega)]
theorem sumF_congr {f g : Nat → Int} : ∀ {k : Nat}, (∀ i, i < k → f i = g i) → sumF f k = sumF g k
  | 0, _ => rfl
  | k + 1, h => by simp only [sumF]; rw [sumF_congr fun i hi => h i (by omega), h k (by omega)]
theorem sumF_bnd {f : Nat → Int} {lo hi : Int} : ∀ {k : Nat}, (∀ i, i < k → lo ≤ f i ∧ f i ≤ hi) → lo * k ≤ sumF f k ∧ sumF f k ≤ hi * k
  | 0, _ => by simp [sumF]
  | k + 1, h => by
    have := sumF_bnd (k := k) fun i hi => h i (by omega)
    have := h k (by omega)
    simp only [sumF, Int.natCast_add, Int.mul_add]
    omega
def ledgerValid (b : Int) (n : Nat) (f : Nat → Int) : Bool := inB b 0 100000 && decide (n ≤ 20) && allB (fun i => inB (f i) 1 100000) n && decide (sumF f n ≤ b)

end Go.Gw
