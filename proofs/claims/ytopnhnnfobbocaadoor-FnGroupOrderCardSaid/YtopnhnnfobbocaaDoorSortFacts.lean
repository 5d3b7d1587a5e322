/- Sorted tables are tables, and sorting them again changes nothing; with no condition. -/
import Derived.Test.YtopnhnnfobbocaaDoorBag
import Derived.KernelRfl
namespace Go.Gw
open Go Go.Proofs
set_option linter.unusedSimpArgs false
set_option linter.unusedVariables false
theorem srt_sorted {lt : List Int → List Int → Bool} (hO : Go.Sort.SWO lt) (S : List (List Int)) : (srtL lt S).Pairwise fun x y => lt y x = false := by
  have := List.pairwise_mergeSort (le := fun x y => !lt y x) (fun x y z h1 h2 => by
    simp only [Bool.not_eq_true'] at h1 h2 ⊢
    exact hO.ntrans _ _ _ h2 h1) (fun x y => by
    cases h3 : lt y x with
    | false => simp
    | true =>
      cases h4 : lt x y with
      | false => simp
      | true => have := hO.trans _ _ _ h3 h4; rw [hO.irrefl] at this; cases this) S
  exact this.imp fun h => by simpa using h
theorem rowsB_of_perm {n m : Nat} {w : Nat → Nat} {h : Nat → Nat → Int} {S : List (List Int)} (hp : S.Perm (tabL m w h)) (ht : rowsB n m w h = true) : rowsB n m (wL S) (hL S) = true := by
  have hl : S.length = m := by rw [hp.length_eq, tabL_len]
  refine allB_iff.2 fun i hi => ?_
  have h1 : S.getD i [] ∈ tabL m w h := by
    rw [List.getD_eq_getElem?_getD, List.getElem?_eq_getElem (by omega)]
    exact hp.mem_iff.1 (List.getElem_mem _)
  simp only [tabL, List.mem_map, List.mem_range] at h1
  obtain ⟨k, hk, he⟩ := h1
  have h2 := allB_iff.1 ht k hk
  have hw : wL S i = w k := by simp only [wL, ← he, rowL_len]
  simp only [rowB, Bool.and_eq_true, decide_eq_true_eq, allB_iff] at h2 ⊢
  refine ⟨hw.trans h2.1, fun j hj => ?_⟩
  rw [hw] at hj
  have : hL S i j = h k j := by simp only [hL, ← he, rowL_get hj]
  rw [this]; exact h2.2 j hj
theorem table_srt {n : Nat} {f : Nat → ByteArray} {m : Nat} {w : Nat → Nat} {h : Nat → Nat → Int} {S : List (List Int)} (hp : S.Perm (tabL m w h)) (ht : tableB n f m w h = true) : tableB n f m (wL S) (hL S) = true := by
  simp only [tableB, Bool.and_eq_true] at ht ⊢
  exact ⟨ht.1, rowsB_of_perm hp ht.2⟩
end Go.Gw
