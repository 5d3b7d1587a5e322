/- Memories: the program and the model take the same ones as valid; with no condition. -/
import Derived.Test.YtopnhnnfobbocaaDoorMemV4
import Derived.KernelRfl
namespace Go.Gw
open Go Go.Proofs
set_option linter.unusedSimpArgs false
set_option linter.unusedVariables false
theorem seen_cnt (A : List Blk) (x : Int) : ∀ k, seenB A k x = decide (0 < cntN A k x)
  | 0 => rfl
  | k + 1 => by
    rw [seenB_up, seen_cnt A x k]
    by_cases h : (A.getD k b0).a = x
    · have e : cntN A (k + 1) x = cntN A k x + 1 := by simp only [cntN]; rw [if_pos h]
      rw [e, show ((A.getD k b0).a == x) = true from by simpa using h]; simp
    · have e : cntN A (k + 1) x = cntN A k x := by simp only [cntN]; rw [if_neg h]; rfl
      rw [e, show ((A.getD k b0).a == x) = false from by simpa using h]; simp
theorem cnt_mono (A : List Blk) (x : Int) {k : Nat} : ∀ {n}, k ≤ n → cntN A k x ≤ cntN A n x := fun {n} h => by
  induction n with
  | zero => have : k = 0 := by omega
            subst this; exact Nat.le_refl _
  | succ n ih =>
    by_cases e : k = n + 1
    · subst e; exact Nat.le_refl _
    · have := ih (by omega)
      simp only [cntN]; omega
theorem sum8 (A : List Blk) : ∀ k, (∀ j, j < k → okB (A.getD j b0) = true) → cntN A k 0 + cntN A k 1 + cntN A k 2 + cntN A k 3 + cntN A k 4 + cntN A k 5 + cntN A k 6 + cntN A k 7 = k
  | 0, _ => rfl
  | k + 1, h => by
    have ih := sum8 A k fun j hj => h j (by omega)
    have h1 := h k (by omega)
    simp only [okB, Bool.and_eq_true] at h1
    have h2 := inB_iff.1 h1.1.1
    simp only [cntN]
    generalize (A.getD k b0).a = a at *
    have h3 : a = 0 ∨ a = 1 ∨ a = 2 ∨ a = 3 ∨ a = 4 ∨ a = 5 ∨ a = 6 ∨ a = 7 := by omega
    rcases h3 with rfl | rfl | rfl | rfl | rfl | rfl | rfl | rfl <;> simp <;> omega
theorem cnt_one (A : List Blk) (x : Int) : ∀ k, (∀ j, j < k → seenB A j (A.getD j b0).a = false) → cntN A k x ≤ 1
  | 0, _ => Nat.zero_le _
  | k + 1, h => by
    have ih := cnt_one A x k fun j hj => h j (by omega)
    have h1 := h k (by omega)
    rw [seen_cnt] at h1
    simp only [cntN]
    by_cases e : (A.getD k b0).a = x
    · rw [e] at h1; simp at h1; rw [if_pos e]; omega
    · rw [if_neg e]; omega
theorem smB_eq (T : List (List Blk)) (S : List Blk) : smB T S = memB T S := by
  rw [Bool.eq_iff_iff]
  simp only [smB, memB, Bool.and_eq_true, decide_eq_true_eq, allB_iff, vbB]
  have hmem : ∀ i, i < T.length → ∀ j, j < (T.getD i []).length → (T.getD i []).getD j b0 ∈ S ++ T.flatten := fun i hi j hj => mem_all hi hj
  generalize S ++ T.flatten = A at *
  constructor
  · rintro ⟨⟨⟨h1, h2⟩, h3⟩, h4⟩
    have hs := sum8 A A.length h2
    have g0 : cntN A A.length 0 = 1 := h3 0 (by omega)
    have g1 : cntN A A.length 1 = 1 := h3 1 (by omega)
    have g2 : cntN A A.length 2 = 1 := h3 2 (by omega)
    have g3 : cntN A A.length 3 = 1 := h3 3 (by omega)
    have g4 : cntN A A.length 4 = 1 := h3 4 (by omega)
    have g5 : cntN A A.length 5 = 1 := h3 5 (by omega)
    have g6 : cntN A A.length 6 = 1 := h3 6 (by omega)
    have g7 : cntN A A.length 7 = 1 := h3 7 (by omega)
    refine ⟨⟨⟨h4, fun j hj => ?_⟩, fun i hi => ?_⟩, ?_⟩
    · have hok := h2 j hj
      simp only [stepB, hok, Bool.true_and, Bool.not_eq_true']
      have h5 := hok
      simp only [okB, Bool.and_eq_true] at h5
      have h6 := inB_iff.1 h5.1.1
      obtain ⟨a, ha⟩ : ∃ a : Nat, (A.getD j b0).a = a := ⟨(A.getD j b0).a.toNat, by omega⟩
      rw [ha, seen_cnt]
      have m := cnt_mono A a (k := j + 1) (n := A.length) (by omega)
      have e : cntN A (j + 1) a = cntN A j a + 1 := by simp only [cntN, ha, if_true]
      have := h3 a (by omega)
      simp; omega
    · have h5 := h1 i hi
      simp only [sbuB, Bool.and_eq_true, decide_eq_true_eq, allB_iff] at h5
      simp only [buB, Bool.and_eq_true, decide_eq_true_eq, allB_iff]
      refine ⟨h5.2, fun j hj => ?_⟩
      have := h5.1 j hj
      simp only [onS, Bool.and_eq_true] at this
      exact this.2
    · omega
  · rintro ⟨⟨⟨h1, h2⟩, h3⟩, h4⟩
    have hok : ∀ j, j < A.length → okB (A.getD j b0) = true := fun j hj => by
      have := h2 j hj
      simp only [stepB, Bool.and_eq_true] at this
      exact this.1
    have hse : ∀ j, j < A.length → seenB A j (A.getD j b0).a = false := fun j hj => by
      have := h2 j hj
      simp only [stepB, Bool.and_eq_true, Bool.not_eq_true'] at this
      exact this.2
    have hs := sum8 A A.length hok
    have c := fun x => cnt_one A x A.length hse
    have c0 := c 0
    have c1 := c 1
    have c2 := c 2
    have c3 := c 3
    have c4 := c 4
    have c5 := c 5
    have c6 := c 6
    have c7 := c 7
    refine ⟨⟨⟨fun i hi => ?_, hok⟩, fun x hx => ?_⟩, h1⟩
    · have h5 := h3 i hi
      simp only [buB, Bool.and_eq_true, decide_eq_true_eq, allB_iff] at h5
      simp only [sbuB, Bool.and_eq_true, decide_eq_true_eq, allB_iff]
      refine ⟨fun j hj => ?_, h5.1⟩
      have h6 := h5.2 j hj
      have h7 := vb_ok (allB_iff.2 h2) (hmem i hi j hj)
      simp only [okB, Bool.and_eq_true] at h7
      simp only [onS, h6, h7.2, Bool.and_self]
    · have h5 : x = 0 ∨ x = 1 ∨ x = 2 ∨ x = 3 ∨ x = 4 ∨ x = 5 ∨ x = 6 ∨ x = 7 := by omega
      rcases h5 with rfl | rfl | rfl | rfl | rfl | rfl | rfl | rfl <;> simp <;> omega
end Go.Gw
