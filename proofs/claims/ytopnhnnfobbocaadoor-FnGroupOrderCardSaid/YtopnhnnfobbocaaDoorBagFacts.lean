/- Facts on tables with the same rows; with no condition. -/
import Derived.Test.YtopnhnnfobbocaaDoorOrder
import Derived.Test.YtopnhnnfobbocaaDoorSortFacts
import Derived.KernelRfl
namespace Go.Gw
open Go Go.Proofs
set_option linter.unusedSimpArgs false
set_option linter.unusedVariables false
theorem sameT_iff {n : Nat} {f : Nat → ByteArray} {n' : Nat} {f' : Nat → ByteArray} : sameT n f n' f' = true ↔ n = n' ∧ ∀ i, i < n → (f i).toList = (f' i).toList := by
  simp only [sameT, Bool.and_eq_true, decide_eq_true_eq, allB_iff, beq_iff_eq]
theorem sameT_rfl (n : Nat) (f : Nat → ByteArray) : sameT n f n f = true := sameT_iff.2 ⟨rfl, fun _ _ => rfl⟩
theorem sameR_iff {m : Nat} {w : Nat → Nat} {h : Nat → Nat → Int} {m' : Nat} {w' : Nat → Nat} {h' : Nat → Nat → Int} : sameR m w h m' w' h' = true ↔ tabL m w h = tabL m' w' h' := by
  simp only [sameR, Bool.and_eq_true, decide_eq_true_eq, allB_iff, beq_iff_eq]
  constructor
  · rintro ⟨rfl, h2⟩
    exact List.map_congr_left fun i hi => h2 i (List.mem_range.1 hi)
  · intro e
    have h1 : m = m' := by have := congrArg List.length e; simpa [tabL_len] using this
    refine ⟨h1, fun i hi => ?_⟩
    rw [← tabL_get (w := w) (h := h) hi, e, tabL_get (by omega)]
theorem sameR_rfl (m : Nat) (w : Nat → Nat) (h : Nat → Nat → Int) : sameR m w h m w h = true := sameR_iff.2 rfl
end Go.Gw
