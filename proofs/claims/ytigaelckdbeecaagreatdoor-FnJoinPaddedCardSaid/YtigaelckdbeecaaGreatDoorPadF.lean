/- Facts of sorted padded tables; with no condition. -/
import Derived.Test.YtigaelckdbeecaaGreatDoorPadT
import Derived.Test.YtigaelckdbeecaaGreatDoorSortFacts
namespace Go.Gw
open Go Go.Proofs
set_option linter.unusedSimpArgs false
set_option linter.unusedVariables false
set_option maxRecDepth 100000
theorem itL_self (T : LI) : itL T.length (iw T) (ih T) (ib T) = T := by
  apply List.ext_getElem
  · simp [itL]
  · intro i h1 h2
    have e : T.getD i (false, []) = T[i] := by simp [List.getD_eq_getElem?_getD, h2]
    simp only [itL, List.getElem_map, List.getElem_range, itm, iw, ih, ib, e]
    refine Prod.ext rfl ?_
    simp only []
    apply List.ext_getElem
    · simp [rowL]
    · intro j h3 h4
      have e2 : ih T i j = T[i].2[j] := by simp only [ih, e]; simp [List.getD_eq_getElem?_getD, h4]
      simp [rowL, e2]
def okI (n : Nat) (x : It) : Prop := x.2.length = n ∧ (∀ v, v ∈ x.2 → valB v = true) ∧ (x.1 = false → ∀ v, v ∈ x.2 → v = 0)
theorem mem_rowL {n : Nat} {f : Nat → Int} {v : Int} : v ∈ rowL n f 0 ↔ ∃ j, j < n ∧ f j = v := by
  simp [rowL, List.mem_range'_1]
theorem pad_iff {n : Nat} {f : Nat → ByteArray} {m : Nat} {w : Nat → Nat} {h : Nat → Nat → Int} {r : Nat → Bool} : padB n f m w h m r = true ↔ namesB n f = true ∧ m ≤ 256 ∧ ∀ x, x ∈ itL m w h r → okI n x := by
  constructor
  · intro hp
    obtain ⟨h1, h2, _, h4, h5⟩ := pad_parts hp
    refine ⟨h1, h2, fun x hx => ?_⟩
    simp only [itL, List.mem_map, List.mem_range] at hx
    obtain ⟨i, hi, rfl⟩ := hx
    obtain ⟨g1, g2⟩ := h4 i hi
    refine ⟨by simp only [itm, rowL_len, g1], fun v hv => ?_, fun e v hv => ?_⟩
    · simp only [itm, mem_rowL] at hv
      obtain ⟨j, hj, rfl⟩ := hv
      exact g2 j (by omega)
    · simp only [itm, mem_rowL] at hv
      obtain ⟨j, hj, rfl⟩ := hv
      exact h5 i hi e j (by omega)
  · intro ⟨h1, h2, h3⟩
    have row : ∀ i, i < m → okI n (itm w h r i) := fun i hi => h3 _ (by simp only [itL, List.mem_map, List.mem_range]; exact ⟨i, hi, rfl⟩)
    simp only [padB, Bool.and_eq_true, decide_eq_true_eq]
    refine ⟨⟨⟨⟨h1, h2⟩, trivial⟩, allB_iff.2 fun i hi => ?_⟩, allB_iff.2 fun i hi => ?_⟩
    · obtain ⟨g1, g2, _⟩ := row i hi
      simp only [itm, rowL_len] at g1
      simp only [rowB, Bool.and_eq_true, decide_eq_true_eq]
      exact ⟨g1, allB_iff.2 fun j hj => g2 _ (mem_rowL.2 ⟨j, by omega, rfl⟩)⟩
    · obtain ⟨_, _, g3⟩ := row i hi
      simp only [zB, Bool.or_eq_true]
      cases e : r i with
      | true => exact .inl rfl
      | false => exact .inr (allB_iff.2 fun j hj => by simpa using g3 e _ (mem_rowL.2 ⟨j, hj, rfl⟩))
theorem pad_perm {n : Nat} {f : Nat → ByteArray} {m : Nat} {w : Nat → Nat} {h : Nat → Nat → Int} {r : Nat → Bool} {T : LI} (hT : T.Perm (itL m w h r)) (hp : padB n f m w h m r = true) : padB n f T.length (iw T) (ih T) T.length (ib T) = true := by
  obtain ⟨h1, h2, h3⟩ := pad_iff.1 hp
  refine pad_iff.2 ⟨h1, by rw [hT.length_eq, itL_len]; exact h2, fun x hx => ?_⟩
  rw [itL_self] at hx
  exact h3 x (hT.mem_iff.1 hx)
theorem reL_perm {T P : LI} (hT : T.Perm P) : (reL T).Perm (reL P) := (hT.filter _).map _
theorem reL_mem {T : LI} {x : List Int} (h : x ∈ reL T) : (true, x) ∈ T := by
  simp only [reL, List.mem_map, List.mem_filter] at h
  obtain ⟨⟨b, y⟩, ⟨h1, h2⟩, h3⟩ := h
  simp only [] at h2 h3
  subst h2; subst h3
  exact h1
end Go.Gw
