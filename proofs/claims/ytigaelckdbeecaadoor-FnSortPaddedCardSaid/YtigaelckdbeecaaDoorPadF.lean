/- Facts of sorted padded tables; with no condition. -/
import Derived.Test.YtigaelckdbeecaaDoorPadT
import Derived.Test.YtigaelckdbeecaaDoorSortFacts
namespace Go.Gw
open Go Go.Proofs
set_option linter.unusedSimpArgs false
set_option linter.unusedVariables false
set_option maxRecDepth 100000
theorem itL_self (T : LI) : itL T.length (iw T) (ih T) (ib T) = T := by
  apply List.ext_getElem
  · simp [itL]
  · intro i h1 h2
    have e : T.getD i (false, []) = T[i] := by simp [List.getD_eq_getElem?_getD, h2]
    simp only [itL, List.getElem_map, List.getElem_range, itm, iw, ih, ib, e]
    refine Prod.ext rfl ?_
    simp only []
    apply List.ext_getElem
    · simp [rowL]
    · intro j h3 h4
      have e2 : ih T i j = T[i].2[j] := by simp only [ih, e]; simp [List.getD_eq_getElem?_getD, h4]
      simp [rowL, e2]
/-- A row as a valid table has it. -/
def okI (n : Nat) (x : It) : Prop := x.2.length = n ∧ (∀ v, v ∈ x.2 → valB v = true) ∧ (x.1 = false → ∀ v, v ∈ x.2 → v = 0)
theorem mem_rowL {n : Nat} {f : Nat → Int} {v : Int} : v ∈ rowL n f 0 ↔ ∃ j, j < n ∧ f j = v := by
  simp [rowL, List.mem_range'_1]
theorem pad_iff {n : Nat} {f : Nat → ByteArray} {m : Nat} {w : Nat → Nat} {h : Nat → Nat → Int} {r : Nat → Bool} : padB n f m w h m r = true ↔ namesB n f = true ∧ m ≤ 256 ∧ ∀ x, x ∈ itL m w h r → okI n x := by
  constructor
  · intro hp
    obtain ⟨h1, h2, _, h4, h5⟩ := pad_parts hp
    refine ⟨h1, h2, fun x hx => ?_⟩
    simp only [itL, List.mem_map, List.mem_range] at hx
    obtain ⟨i, hi, rfl⟩ := hx
    obtain ⟨g1, g2⟩ := h4 i hi
    refine ⟨by simp only [itm, rowL_len, g1], fun v hv => ?_, fun e v hv => ?_⟩
    · simp only [itm, mem_rowL] at hv
      obtain ⟨j, hj, rfl⟩ := hv
      exact g2 j (by omega)
    · simp only [itm, mem_rowL] at hv
      obtain ⟨j, hj, rfl⟩ := hv
      exact h5 i hi e j (by omega)
  · intro ⟨h1, h2, h3⟩
    have row : ∀ i, i < m → okI n (itm w h r i) := fun i hi => h3 _ (by simp only [itL, List.mem_map, List.mem_range]; exact ⟨i, hi, rfl⟩)
    simp only [padB, Bool.and_eq_true, decide_eq_true_eq]
    refine ⟨⟨⟨⟨h1, h2⟩, trivial⟩, allB_iff.2 fun i hi => ?_⟩, allB_iff.2 fun i hi => ?_⟩
    · obtain ⟨g1, g2, _⟩ := row i hi
      simp only [itm, rowL_len] at g1
      simp only [rowB, Bool.and_eq_true, decide_eq_true_eq]
      exact ⟨g1, allB_iff.2 fun j hj => g2 _ (mem_rowL.2 ⟨j, by omega, rfl⟩)⟩
    · obtain ⟨_, _, g3⟩ := row i hi
      simp only [zB, Bool.or_eq_true]
      cases e : r i with
      | true => exact .inl rfl
      | false => exact .inr (allB_iff.2 fun j hj => by simpa using g3 e _ (mem_rowL.2 ⟨j, hj, rfl⟩))
theorem pad_perm {n : Nat} {f : Nat → ByteArray} {m : Nat} {w : Nat → Nat} {h : Nat → Nat → Int} {r : Nat → Bool} {T : LI} (hT : T.Perm (itL m w h r)) (hp : padB n f m w h m r = true) : padB n f T.length (iw T) (ih T) T.length (ib T) = true := by
  obtain ⟨h1, h2, h3⟩ := pad_iff.1 hp
  refine pad_iff.2 ⟨h1, by rw [hT.length_eq, itL_len]; exact h2, fun x hx => ?_⟩
  rw [itL_self] at hx
  exact h3 x (hT.mem_iff.1 hx)
theorem reL_perm {T P : LI} (hT : T.Perm P) : (reL T).Perm (reL P) := (hT.filter _).map _
theorem cnt_perm {m : Nat} {w : Nat → Nat} {h : Nat → Nat → Int} {r : Nat → Bool} {T : LI} (hT : T.Perm (itL m w h r)) : cntB (ib T) T.length = cntB r m := by
  rw [← reL_len (w := iw T) (h := ih T), ← reL_len (w := w) (h := h), itL_self]
  exact (reL_perm hT).length_eq
theorem reL_mem {T : LI} {x : List Int} (h : x ∈ reL T) : (true, x) ∈ T := by
  simp only [reL, List.mem_map, List.mem_filter] at h
  obtain ⟨⟨b, y⟩, ⟨h1, h2⟩, h3⟩ := h
  simp only [] at h2 h3
  subst h2; subst h3
  exact h1
theorem reL_srt (c : Int) (dn : Bool) (P : LI) : reL (srtP c dn P) = srtL (ltQ c dn) (reL P) := by
  refine srt_eq (ltQ_swo c dn) (ltQ_anti c dn) (reL_perm (srtP_perm c dn P)) ?_
  simp only [reL]
  rw [List.pairwise_map]
  have h := (srtP_sorted c dn P).filter (fun x => x.1)
  refine List.Pairwise.imp_of_mem (fun {a b} ha hb hab => ?_) h
  have ea : a.1 = true := by simpa using (List.mem_filter.1 ha).2
  have eb : b.1 = true := by simpa using (List.mem_filter.1 hb).2
  rw [ltX_iff, if_pos (by rw [ea, eb])] at hab
  exact hab
theorem marks_of {c : Int} {dn : Bool} {T : LI} {q : Nat} (hs : T.Pairwise fun x y => ltX c dn y x = false) (hq : q + 1 < T.length) (h : ib T (q + 1) = true) : ib T q = true := by
  have hs := List.pairwise_iff_getElem.1 hs q (q + 1) (by omega) hq (by omega)
  have e1 : T.getD q (false, []) = T[q] := by simp [List.getD_eq_getElem?_getD, show q < T.length by omega]
  have e2 : T.getD (q + 1) (false, []) = T[q + 1] := by simp [List.getD_eq_getElem?_getD, hq]
  simp only [ib, e1, e2] at h ⊢
  rw [ltX_iff] at hs
  cases e : T[q].1 with
  | true => rfl
  | false =>
    rw [h, e] at hs
    simp at hs
theorem srtP_marks {c : Int} {dn : Bool} {P : LI} {q : Nat} (hq : q + 1 < (srtP c dn P).length) (h : ib (srtP c dn P) (q + 1) = true) : ib (srtP c dn P) q = true := marks_of (srtP_sorted c dn P) hq h
theorem ltQ_yes {c : Int} {dn : Bool} (h : 0 ≤ c) : ltQ c dn = ltO c.toNat dn := by funext x y; simp [ltQ, ltO, ordQ, h]
theorem ltQ_no {c : Int} {dn : Bool} (h : ¬ 0 ≤ c) : ltQ c dn = ltL := by funext x y; simp [ltQ, ltL, ordQ, h]
theorem table_re {n : Nat} {f : Nat → ByteArray} {m : Nat} {w : Nat → Nat} {h : Nat → Nat → Int} {r : Nat → Bool} (hp : padB n f m w h m r = true) (hc : cntB r m ≤ 16) {S : LL} (hS : S = reL (itL m w h r)) : tableB n f S.length (wL S) (hL S) = true := by
  obtain ⟨h1, h2, h3⟩ := pad_iff.1 hp
  have hl : S.length = cntB r m := by rw [hS, reL_len]
  have row : ∀ i, i < S.length → okI n (true, S.getD i []) := fun i hi => by
    have : S.getD i [] ∈ reL (itL m w h r) := by
      rw [← hS, List.getD_eq_getElem?_getD, List.getElem?_eq_getElem hi]; exact List.getElem_mem _
    exact h3 _ (reL_mem this)
  simp only [tableB, rowsB, Bool.and_eq_true, decide_eq_true_eq]
  refine ⟨⟨h1, by omega⟩, allB_iff.2 fun i hi => ?_⟩
  obtain ⟨g1, g2, _⟩ := row i hi
  simp only [] at g1 g2
  simp only [rowB, Bool.and_eq_true, decide_eq_true_eq]
  refine ⟨g1, allB_iff.2 fun j hj => g2 _ ?_⟩
  simp only [hL, List.getD_eq_getElem?_getD] at hj ⊢
  have hj' : j < (S[i]?.getD []).length := by simpa [wL, List.getD_eq_getElem?_getD] using hj
  rw [List.getElem?_eq_getElem hj']
  exact List.getElem_mem _
theorem tl_loop (b : ByteArray) : ∀ (k i : Nat) (r : List UInt8), b.size - i = k → (ByteArray.toList.loop b i r).length = r.length + k := by
  intro k
  induction k with
  | zero =>
    intro i r h
    unfold ByteArray.toList.loop
    rw [if_neg (by omega)]
    simp
  | succ k ih =>
    intro i r h
    unfold ByteArray.toList.loop
    rw [if_pos (by omega), ih (i + 1) _ (by omega)]
    simp; omega
theorem tl_len (b : ByteArray) : b.toList.length = b.size := by
  unfold ByteArray.toList
  rw [tl_loop b b.size 0 [] (by omega)]
  simp
theorem names_size {n : Nat} {f : Nat → ByteArray} (h : namesB n f = true) : ∀ i, i < n → 1 ≤ (f i).size := fun i hi => by
  simp only [namesB, Bool.and_eq_true] at h
  have := allB_iff.1 h.1 i hi
  simp only [colB, nameB, Bool.and_eq_true, inB, decide_eq_true_eq] at this
  omega
theorem colT_emp {n : Nat} {f : Nat → ByteArray} {s : ByteArray} (h : namesB n f = true) (hs : emB s = true) : ¬ 0 ≤ colT f s n := by
  have hl : s.toList.length = 0 := by
    have : s.toList = (ByteArray.mk #[]).toList := by simpa [emB] using hs
    rw [this, tl_len]; rfl
  rw [colT_no (N := n) fun j hj => ?_]
  · decide
  · have h1 := names_size h j hj
    cases e : (s.toList == (f j).toList) with
    | false => rfl
    | true =>
      have : s.toList = (f j).toList := by simpa using e
      rw [this, tl_len] at hl
      omega
end Go.Gw
