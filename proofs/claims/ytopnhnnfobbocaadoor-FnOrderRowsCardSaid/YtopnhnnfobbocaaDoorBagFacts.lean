/- Facts on tables with the same rows; with no condition. -/
import Derived.Test.YtopnhnnfobbocaaDoorOrder
import Derived.Test.YtopnhnnfobbocaaDoorSortFacts
import Derived.KernelRfl
namespace Go.Gw
open Go Go.Proofs
set_option linter.unusedSimpArgs false
set_option linter.unusedVariables false
theorem sameT_iff {n : Nat} {f : Nat → ByteArray} {n' : Nat} {f' : Nat → ByteArray} : sameT n f n' f' = true ↔ n = n' ∧ ∀ i, i < n → (f i).toList = (f' i).toList := by
  simp only [sameT, Bool.and_eq_true, decide_eq_true_eq, allB_iff, beq_iff_eq]
theorem sameT_rfl (n : Nat) (f : Nat → ByteArray) : sameT n f n f = true := sameT_iff.2 ⟨rfl, fun _ _ => rfl⟩
theorem sameT_comm (n : Nat) (f : Nat → ByteArray) (n' : Nat) (f' : Nat → ByteArray) : sameT n f n' f' = sameT n' f' n f := by
  rw [Bool.eq_iff_iff, sameT_iff, sameT_iff]
  exact ⟨fun ⟨h1, h2⟩ => ⟨h1.symm, fun i hi => (h2 i (h1 ▸ hi)).symm⟩, fun ⟨h1, h2⟩ => ⟨h1.symm, fun i hi => (h2 i (h1 ▸ hi)).symm⟩⟩
theorem sameR_iff {m : Nat} {w : Nat → Nat} {h : Nat → Nat → Int} {m' : Nat} {w' : Nat → Nat} {h' : Nat → Nat → Int} : sameR m w h m' w' h' = true ↔ tabL m w h = tabL m' w' h' := by
  simp only [sameR, Bool.and_eq_true, decide_eq_true_eq, allB_iff, beq_iff_eq]
  constructor
  · rintro ⟨rfl, h2⟩
    exact List.map_congr_left fun i hi => h2 i (List.mem_range.1 hi)
  · intro e
    have h1 : m = m' := by have := congrArg List.length e; simpa [tabL_len] using this
    refine ⟨h1, fun i hi => ?_⟩
    rw [← tabL_get (w := w) (h := h) hi, e, tabL_get (by omega)]
theorem sameR_rfl (m : Nat) (w : Nat → Nat) (h : Nat → Nat → Int) : sameR m w h m w h = true := sameR_iff.2 rfl
theorem srtL_perm' (lt : List Int → List Int → Bool) (S : List (List Int)) : (srtL lt S).Perm S := List.mergeSort_perm _ _
theorem srtL_congr {lt : List Int → List Int → Bool} (hO : Go.Sort.SWO lt) (ha : ∀ x y, lt x y = false → lt y x = false → x = y) {S T : List (List Int)} (hp : S.Perm T) : srtL lt S = srtL lt T :=
  srt_eq hO ha ((srtL_perm' lt S).trans hp) (srt_sorted hO S)
theorem bagB_iff {n : Nat} {f : Nat → ByteArray} {m : Nat} {w : Nat → Nat} {h : Nat → Nat → Int} {n' : Nat} {f' : Nat → ByteArray} {m' : Nat} {w' : Nat → Nat} {h' : Nat → Nat → Int} :
    bagB n f m w h n' f' m' w' h' = true ↔ tableB n f m w h = true ∧ tableB n' f' m' w' h' = true ∧ sameT n f n' f' = true ∧ (tabL m w h).Perm (tabL m' w' h') := by
  have key : tableB n f m w h = true → tableB n' f' m' w' h' = true → (sameR (srM n f m w h) (wL (srtA m w h)) (hL (srtA m w h)) (srM n' f' m' w' h') (wL (srtA m' w' h')) (hL (srtA m' w' h')) = true ↔ (tabL m w h).Perm (tabL m' w' h')) := fun h1 h2 => by
    simp only [srM, h1, h2, if_true]
    rw [sameR_iff, tabL_of (srt_len _ _ _), tabL_of (srt_len _ _ _)]
    constructor
    · intro e
      exact (srtL_perm' ltL _).symm.trans ((show srtL ltL (tabL m w h) = srtL ltL (tabL m' w' h') from e) ▸ srtL_perm' ltL _)
    · intro e; exact srtL_congr lt_swo lt_anti e
  simp only [bagB, Bool.and_eq_true]
  constructor
  · rintro ⟨⟨⟨h1, h2⟩, h3⟩, h4⟩; exact ⟨h1, h2, h3, (key h1 h2).1 h4⟩
  · rintro ⟨h1, h2, h3, h4⟩; exact ⟨⟨⟨h1, h2⟩, h3⟩, (key h1 h2).2 h4⟩
theorem bagB_comm (n : Nat) (f : Nat → ByteArray) (m : Nat) (w : Nat → Nat) (h : Nat → Nat → Int) (n' : Nat) (f' : Nat → ByteArray) (m' : Nat) (w' : Nat → Nat) (h' : Nat → Nat → Int) :
    bagB n f m w h n' f' m' w' h' = bagB n' f' m' w' h' n f m w h := by
  rw [Bool.eq_iff_iff, bagB_iff, bagB_iff, sameT_comm]
  exact ⟨fun ⟨h1, h2, h3, h4⟩ => ⟨h2, h1, h3, h4.symm⟩, fun ⟨h1, h2, h3, h4⟩ => ⟨h2, h1, h3, h4.symm⟩⟩
theorem bag_perm {n : Nat} {f : Nat → ByteArray} {m : Nat} {w : Nat → Nat} {h : Nat → Nat → Int} {S : List (List Int)} (hp : S.Perm (tabL m w h)) (ht : tableB n f m w h = true) : bagB n f m (wL S) (hL S) n f m w h = true := by
  have hl : S.length = m := by rw [hp.length_eq, tabL_len]
  exact bagB_iff.2 ⟨table_srt hp ht, ht, sameT_rfl _ _, by rw [tabL_of hl]; exact hp⟩
theorem bag_self (n : Nat) (f : Nat → ByteArray) (m : Nat) (w : Nat → Nat) (h : Nat → Nat → Int) : bagB n f m w h n f m w h = tableB n f m w h := by
  rw [Bool.eq_iff_iff, bagB_iff]
  exact ⟨fun e => e.1, fun e => ⟨e, e, sameT_rfl _ _, List.Perm.refl _⟩⟩
theorem bag_more (n : Nat) (f : Nat → ByteArray) (m : Nat) (w : Nat → Nat) (h : Nat → Nat → Int) (n' : Nat) (f' : Nat → ByteArray) (m' : Nat) (w' : Nat → Nat) (h' : Nat → Nat → Int) (hm : m ≠ m') : bagB n f m w h n' f' m' w' h' = false := by
  cases e : bagB n f m w h n' f' m' w' h' with
  | false => rfl
  | true =>
    have := (bagB_iff.1 e).2.2.2.length_eq
    rw [tabL_len, tabL_len] at this
    exact absurd this hm
theorem colT_congr {f f' : Nat → ByteArray} (x : ByteArray) : ∀ {n : Nat}, (∀ i, i < n → (f i).toList = (f' i).toList) → colT f x n = colT f' x n
  | 0, _ => rfl
  | N + 1, h => by
    simp only [colT, colT_congr (n := N) x fun i hi => h i (by omega), h N (by omega)]
theorem colT_same {n : Nat} {f : Nat → ByteArray} {n' : Nat} {f' : Nat → ByteArray} (x : ByteArray) (h : sameT n f n' f' = true) : colT f x n = colT f' x n' := by
  obtain ⟨rfl, h2⟩ := sameT_iff.1 h
  exact colT_congr x h2
theorem colT_zero {n : Nat} {f : Nat → ByteArray} (hn : 0 < n) : colT f (f 0) n = 0 := colT_at (k := 0) (by simp) (fun j hj => absurd hj (Nat.not_lt_zero _)) hn
theorem tabL_rev (m : Nat) (w : Nat → Nat) (h : Nat → Nat → Int) : (tabL m (fun i => w (m - 1 - i)) fun i => h (m - 1 - i)).Perm (tabL m w h) := by
  have e : tabL m (fun i => w (m - 1 - i)) (fun i => h (m - 1 - i)) = (tabL m w h).reverse := by
    apply List.ext_getElem
    · simp [tabL]
    · intro i h1 h2
      simp only [tabL, List.getElem_map, List.getElem_range, List.getElem_reverse, List.length_map, List.length_range]
  rw [e]; exact List.reverse_perm _
theorem sorted_key {c : Nat} {dn : Bool} {S : List (List Int)} (hs : S.Pairwise fun x y => ltO c dn y x = false) {i j : Nat} (hij : i < j) (hj : j < S.length) : keyO c dn (S.getD i []) ≤ keyO c dn (S.getD j []) := by
  have h1 := List.pairwise_iff_getElem.1 hs i j (by omega) hj hij
  rw [ltO_ff] at h1
  have e : ∀ k (h : k < S.length), S.getD k [] = S[k] := fun k h => by simp [List.getD_eq_getElem?_getD, h]
  rw [e i (by omega), e j hj]
  rcases h1 with h1 | h1 <;> omega
theorem srtO_len (c : Nat) (dn : Bool) (m : Nat) (w : Nat → Nat) (h : Nat → Nat → Int) : (srtO c dn m w h).length = m := by
  rw [(srtL_perm' _ _).length_eq, tabL_len]
theorem srtO_again (c : Nat) (dn : Bool) (m : Nat) (w : Nat → Nat) (h : Nat → Nat → Int) : srtO c dn m (wL (srtO c dn m w h)) (hL (srtO c dn m w h)) = srtO c dn m w h := by
  unfold srtO
  rw [tabL_of (srtO_len c dn m w h)]
  exact (srt_eq (ltO_swo c dn) (ltO_anti c dn) (List.Perm.refl _) (srt_sorted (ltO_swo c dn) _)).symm
theorem srtO_congr {c : Nat} {dn : Bool} {m : Nat} {w : Nat → Nat} {h : Nat → Nat → Int} {m' : Nat} {w' : Nat → Nat} {h' : Nat → Nat → Int} (hp : (tabL m w h).Perm (tabL m' w' h')) : srtO c dn m w h = srtO c dn m' w' h' :=
  srtL_congr (ltO_swo c dn) (ltO_anti c dn) hp
theorem srtO_bag (c : Nat) (dn : Bool) {n : Nat} {f : Nat → ByteArray} {m : Nat} {w : Nat → Nat} {h : Nat → Nat → Int} {n' : Nat} {f' : Nat → ByteArray} {m' : Nat} {w' : Nat → Nat} {h' : Nat → Nat → Int}
    (e : bagB n f m w h n' f' m' w' h' = true) : srtO c dn m w h = srtO c dn m' w' h' := srtO_congr (bagB_iff.1 e).2.2.2
theorem table_perm {n : Nat} {f : Nat → ByteArray} {m : Nat} {w : Nat → Nat} {h : Nat → Nat → Int} {w' : Nat → Nat} {h' : Nat → Nat → Int} (hp : (tabL m w' h').Perm (tabL m w h)) (ht : tableB n f m w h = true) : tableB n f m w' h' = true := by
  have h1 := table_srt hp ht
  simp only [tableB, Bool.and_eq_true] at h1 ⊢
  refine ⟨h1.1, ?_⟩
  have h2 := h1.2
  simp only [rowsB, allB_iff, rowB, Bool.and_eq_true, decide_eq_true_eq] at h2 ⊢
  intro i hi
  have h3 := h2 i hi
  have e1 : wL (tabL m w' h') i = w' i := by simp only [wL, tabL_get hi, rowL_len]
  rw [e1] at h3
  refine ⟨h3.1, fun j hj => ?_⟩
  have h4 := h3.2 j hj
  simpa only [hL, tabL_get hi, rowL_get hj] using h4
end Go.Gw
