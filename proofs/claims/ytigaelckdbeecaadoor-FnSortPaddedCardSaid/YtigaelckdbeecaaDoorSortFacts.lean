/- Sorted tables are tables, and sorting them again changes nothing; with no condition. -/
import Derived.Test.YtigaelckdbeecaaDoorSortRows
import Derived.KernelRfl
import Derived.Test.YtigaelckdbeecaaDoorOrder
namespace Go.Gw
open Go Go.Proofs
set_option linter.unusedSimpArgs false
set_option linter.unusedVariables false
theorem tabL_of {S : List (List Int)} {m : Nat} (hm : S.length = m) : tabL m (wL S) (hL S) = S := by
  subst hm
  apply List.ext_getElem
  · simp [tabL]
  · intro i h1 h2
    simp only [tabL, List.getElem_map, List.getElem_range, rowL_hL]
    simp [List.getD_eq_getElem?_getD, h2]
end Go.Gw

namespace Go.Gw
open Go Go.Proofs
set_option linter.unusedSimpArgs false
set_option linter.unusedVariables false
theorem sameT_iff {n : Nat} {f : Nat → ByteArray} {n' : Nat} {f' : Nat → ByteArray} : sameT n f n' f' = true ↔ n = n' ∧ ∀ i, i < n → (f i).toList = (f' i).toList := by
  simp only [sameT, Bool.and_eq_true, decide_eq_true_eq, allB_iff, beq_iff_eq]
theorem sameT_rfl (n : Nat) (f : Nat → ByteArray) : sameT n f n f = true := sameT_iff.2 ⟨rfl, fun _ _ => rfl⟩
theorem sameR_iff {m : Nat} {w : Nat → Nat} {h : Nat → Nat → Int} {m' : Nat} {w' : Nat → Nat} {h' : Nat → Nat → Int} : sameR m w h m' w' h' = true ↔ tabL m w h = tabL m' w' h' := by
  simp only [sameR, Bool.and_eq_true, decide_eq_true_eq, allB_iff, beq_iff_eq]
  constructor
  · rintro ⟨rfl, h2⟩
    exact List.map_congr_left fun i hi => h2 i (List.mem_range.1 hi)
  · intro e
    have h1 : m = m' := by have := congrArg List.length e; simpa [tabL_len] using this
    refine ⟨h1, fun i hi => ?_⟩
    rw [← tabL_get (w := w) (h := h) hi, e, tabL_get (by omega)]
theorem sameR_rfl (m : Nat) (w : Nat → Nat) (h : Nat → Nat → Int) : sameR m w h m w h = true := sameR_iff.2 rfl
theorem srtL_perm' (lt : List Int → List Int → Bool) (S : List (List Int)) : (srtL lt S).Perm S := List.mergeSort_perm _ _
end Go.Gw
