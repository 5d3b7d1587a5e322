/- Tables with the same rows in any order; with no condition. -/
import Derived.Test.YtopnhnnfobbocaaDoorExSort
import Derived.KernelRfl
namespace Go.Gw
open Go Go.Proofs
set_option linter.unusedSimpArgs false
set_option linter.unusedVariables false
set_option maxRecDepth 100000
def sameT (n : Nat) (f : Nat → ByteArray) (m : Nat) (g : Nat → ByteArray) : Bool := decide (n = m) && allB (fun i => (f i).toList == (g i).toList) n
def sameR (m : Nat) (w : Nat → Nat) (h : Nat → Nat → Int) (m' : Nat) (w' : Nat → Nat) (h' : Nat → Nat → Int) : Bool := decide (m = m') && allB (fun i => rowL (w i) (h i) 0 == rowL (w' i) (h' i) 0) m
def sameV (n : Nat) (f : Nat → Int) (m : Nat) (g : Nat → Int) : Bool := decide (n = m) && allB (fun i => f i == g i) n
theorem sameV_eq (n : Nat) (f : Nat → Int) (m : Nat) (g : Nat → Int) : sameV n f m g = (rowL n f 0 == rowL m g 0) := by
  rw [Bool.eq_iff_iff]
  simp only [sameV, Bool.and_eq_true, decide_eq_true_eq, allB_iff, beq_iff_eq]
  constructor
  · rintro ⟨rfl, h⟩; exact rowL_congr h
  · intro h
    have h1 : n = m := by have := congrArg List.length h; simpa [rowL_len] using this
    subst h1
    refine ⟨rfl, fun i hi => ?_⟩
    rw [← rowL_get (f := f) hi, h, rowL_get hi]
/-! ### SameBag -/
end Go.Gw
