/- Sorted tables are tables, and sorting them again changes nothing; with no condition. -/
import Derived.Test.YtigaelckdbeecaaGreatDoorSortRows
import Derived.KernelRfl
import Derived.Test.YtigaelckdbeecaaGreatDoorOrder
namespace Go.Gw
open Go Go.Proofs
set_option linter.unusedSimpArgs false
set_option linter.unusedVariables false
theorem tabL_of {S : List (List Int)} {m : Nat} (hm : S.length = m) : tabL m (wL S) (hL S) = S := by
  subst hm
  apply List.ext_getElem
  · simp [tabL]
  · intro i h1 h2
    simp only [tabL, List.getElem_map, List.getElem_range, rowL_hL]
    simp [List.getD_eq_getElem?_getD, h2]
theorem srt_sorted {lt : List Int → List Int → Bool} (hO : Go.Sort.SWO lt) (S : List (List Int)) : (srtL lt S).Pairwise fun x y => lt y x = false := by
  have := List.pairwise_mergeSort (le := fun x y => !lt y x) (fun x y z h1 h2 => by
    simp only [Bool.not_eq_true'] at h1 h2 ⊢
    exact hO.ntrans _ _ _ h2 h1) (fun x y => by
    cases h3 : lt y x with
    | false => simp
    | true =>
      cases h4 : lt x y with
      | false => simp
      | true => have := hO.trans _ _ _ h3 h4; rw [hO.irrefl] at this; cases this) S
  exact this.imp fun h => by simpa using h
theorem rowsB_of_perm {n m : Nat} {w : Nat → Nat} {h : Nat → Nat → Int} {S : List (List Int)} (hp : S.Perm (tabL m w h)) (ht : rowsB n m w h = true) : rowsB n m (wL S) (hL S) = true := by
  have hl : S.length = m := by rw [hp.length_eq, tabL_len]
  refine allB_iff.2 fun i hi => ?_
  have h1 : S.getD i [] ∈ tabL m w h := by
    rw [List.getD_eq_getElem?_getD, List.getElem?_eq_getElem (by omega)]
    exact hp.mem_iff.1 (List.getElem_mem _)
  simp only [tabL, List.mem_map, List.mem_range] at h1
  obtain ⟨k, hk, he⟩ := h1
  have h2 := allB_iff.1 ht k hk
  have hw : wL S i = w k := by simp only [wL, ← he, rowL_len]
  simp only [rowB, Bool.and_eq_true, decide_eq_true_eq, allB_iff] at h2 ⊢
  refine ⟨hw.trans h2.1, fun j hj => ?_⟩
  rw [hw] at hj
  have : hL S i j = h k j := by simp only [hL, ← he, rowL_get hj]
  rw [this]; exact h2.2 j hj
theorem table_srt {n : Nat} {f : Nat → ByteArray} {m : Nat} {w : Nat → Nat} {h : Nat → Nat → Int} {S : List (List Int)} (hp : S.Perm (tabL m w h)) (ht : tableB n f m w h = true) : tableB n f m (wL S) (hL S) = true := by
  simp only [tableB, Bool.and_eq_true] at ht ⊢
  exact ⟨ht.1, rowsB_of_perm hp ht.2⟩
end Go.Gw
namespace Go.Gw
open Go Go.Proofs
set_option linter.unusedSimpArgs false
set_option linter.unusedVariables false
theorem sameT_iff {n : Nat} {f : Nat → ByteArray} {n' : Nat} {f' : Nat → ByteArray} : sameT n f n' f' = true ↔ n = n' ∧ ∀ i, i < n → (f i).toList = (f' i).toList := by
  simp only [sameT, Bool.and_eq_true, decide_eq_true_eq, allB_iff, beq_iff_eq]
theorem sameT_rfl (n : Nat) (f : Nat → ByteArray) : sameT n f n f = true := sameT_iff.2 ⟨rfl, fun _ _ => rfl⟩
theorem sameR_iff {m : Nat} {w : Nat → Nat} {h : Nat → Nat → Int} {m' : Nat} {w' : Nat → Nat} {h' : Nat → Nat → Int} : sameR m w h m' w' h' = true ↔ tabL m w h = tabL m' w' h' := by
  simp only [sameR, Bool.and_eq_true, decide_eq_true_eq, allB_iff, beq_iff_eq]
  constructor
  · rintro ⟨rfl, h2⟩
    exact List.map_congr_left fun i hi => h2 i (List.mem_range.1 hi)
  · intro e
    have h1 : m = m' := by have := congrArg List.length e; simpa [tabL_len] using this
    refine ⟨h1, fun i hi => ?_⟩
    rw [← tabL_get (w := w) (h := h) hi, e, tabL_get (by omega)]
theorem sameR_rfl (m : Nat) (w : Nat → Nat) (h : Nat → Nat → Int) : sameR m w h m w h = true := sameR_iff.2 rfl
theorem srtL_perm' (lt : List Int → List Int → Bool) (S : List (List Int)) : (srtL lt S).Perm S := List.mergeSort_perm _ _
theorem srtL_congr {lt : List Int → List Int → Bool} (hO : Go.Sort.SWO lt) (ha : ∀ x y, lt x y = false → lt y x = false → x = y) {S T : List (List Int)} (hp : S.Perm T) : srtL lt S = srtL lt T :=
  srt_eq hO ha ((srtL_perm' lt S).trans hp) (srt_sorted hO S)
theorem bagB_iff {n : Nat} {f : Nat → ByteArray} {m : Nat} {w : Nat → Nat} {h : Nat → Nat → Int} {n' : Nat} {f' : Nat → ByteArray} {m' : Nat} {w' : Nat → Nat} {h' : Nat → Nat → Int} :
    bagB n f m w h n' f' m' w' h' = true ↔ tableB n f m w h = true ∧ tableB n' f' m' w' h' = true ∧ sameT n f n' f' = true ∧ (tabL m w h).Perm (tabL m' w' h') := by
  have key : tableB n f m w h = true → tableB n' f' m' w' h' = true → (sameR (srM n f m w h) (wL (srtA m w h)) (hL (srtA m w h)) (srM n' f' m' w' h') (wL (srtA m' w' h')) (hL (srtA m' w' h')) = true ↔ (tabL m w h).Perm (tabL m' w' h')) := fun h1 h2 => by
    simp only [srM, h1, h2, if_true]
    rw [sameR_iff, tabL_of (srt_len _ _ _), tabL_of (srt_len _ _ _)]
    constructor
    · intro e
      exact (srtL_perm' ltL _).symm.trans ((show srtL ltL (tabL m w h) = srtL ltL (tabL m' w' h') from e) ▸ srtL_perm' ltL _)
    · intro e; exact srtL_congr lt_swo lt_anti e
  simp only [bagB, Bool.and_eq_true]
  constructor
  · rintro ⟨⟨⟨h1, h2⟩, h3⟩, h4⟩; exact ⟨h1, h2, h3, (key h1 h2).1 h4⟩
  · rintro ⟨h1, h2, h3, h4⟩; exact ⟨⟨⟨h1, h2⟩, h3⟩, (key h1 h2).2 h4⟩
theorem bag_perm {n : Nat} {f : Nat → ByteArray} {m : Nat} {w : Nat → Nat} {h : Nat → Nat → Int} {S : List (List Int)} (hp : S.Perm (tabL m w h)) (ht : tableB n f m w h = true) : bagB n f m (wL S) (hL S) n f m w h = true := by
  have hl : S.length = m := by rw [hp.length_eq, tabL_len]
  exact bagB_iff.2 ⟨table_srt hp ht, ht, sameT_rfl _ _, by rw [tabL_of hl]; exact hp⟩
end Go.Gw
