/- A memory that was used is valid, and its blocks are those from before; with no condition. -/
import Derived.Test.YtopnhnnfobbocaaDoorMemR
import Derived.KernelRfl
namespace Go.Gw
open Go Go.Proofs
set_option linter.unusedSimpArgs false
set_option linter.unusedVariables false
theorem vb_iff {A : List Blk} : vbB A = true ↔ (∀ b, b ∈ A → okB b = true) ∧ (A.map Blk.a).Nodup := by
  constructor
  · intro h
    refine ⟨fun b hb => vb_ok h hb, ?_⟩
    rw [List.Nodup, List.pairwise_iff_getElem]
    intro i j hi hj hij e
    simp only [List.length_map] at hi hj
    simp only [List.getElem_map] at e
    have h1 := allB_iff.1 h j hj
    simp only [stepB, Bool.and_eq_true, Bool.not_eq_true'] at h1
    have e1 : A.getD j b0 = A[j] := by simp [List.getD_eq_getElem?_getD, hj]
    have e2 : A.getD i b0 = A[i] := by simp [List.getD_eq_getElem?_getD, hi]
    have h2 := h1.2
    rw [e1] at h2
    unfold seenB at h2
    rw [allB_no (p := fun k => !((A.getD k b0).a == A[j].a)) (k := i) hij (by rw [e2, e]; simp)] at h2
    cases h2
  · rintro ⟨h1, h2⟩
    refine allB_iff.2 fun j hj => ?_
    have e1 : A.getD j b0 = A[j] := by simp [List.getD_eq_getElem?_getD, hj]
    simp only [stepB, Bool.and_eq_true, Bool.not_eq_true']
    refine ⟨h1 _ (getD_mem hj), ?_⟩
    unfold seenB
    rw [Bool.not_eq_false', allB_iff]
    intro i hi
    have hi' : i < A.length := by omega
    have e2 : A.getD i b0 = A[i] := by simp [List.getD_eq_getElem?_getD, hi']
    rw [List.Nodup, List.pairwise_iff_getElem] at h2
    have h3 := h2 i j (by simpa using hi') (by simpa using hj) hi
    simp only [List.getElem_map] at h3
    rw [e1, e2]
    simpa using h3
theorem set_flat {X : List Blk} : ∀ {T : List (List Blk)} {p : Nat}, p < T.length → ((T.set p X).flatten).Perm (X ++ (T.set p []).flatten)
  | Y :: T, 0, _ => by simp
  | Y :: T, p + 1, h => by
    have ih := set_flat (X := X) (T := T) (p := p) (by simpa using h)
    simp only [List.set_cons_succ, List.flatten_cons]
    refine (ih.append_left Y).trans ?_
    rw [← List.append_assoc, ← List.append_assoc]
    exact List.perm_append_comm.append_right _
theorem get_flat {T : List (List Blk)} {p : Nat} (h : p < T.length) : (T.flatten).Perm (T.getD p [] ++ (T.set p []).flatten) := by
  have h1 := set_flat (X := T.getD p []) h
  rwa [set_self h] at h1
theorem fill_perm {i : Int} {B L : List Blk} : ∀ {j}, j ≤ L.length → ((fillK i B L j).1 ++ (fillK i B L j).2).Perm (B ++ L.take j)
  | 0, _ => by simp [fillK]
  | j + 1, h => by
    have ih := fill_perm (i := i) (B := B) (L := L) (j := j) (by omega)
    rw [fillK_succ (by omega)]
    have e : L.take (j + 1) = L.take j ++ [L.getD j b0] := by
      rw [List.take_succ_eq_append_getElem (by omega)]
      simp [List.getD_eq_getElem?_getD, show j < L.length by omega]
    rw [e, ← List.append_assoc]
    generalize fillK i B L j = p at *
    unfold fillStep
    split
    · refine List.Perm.trans ?_ (ih.append_right _)
      simp only [List.append_assoc]
      exact (List.perm_append_comm).append_left _
    · rw [← List.append_assoc]
      exact ih.append_right _
theorem S1_perm (T : List (List Blk)) (S : List Blk) {l : Int} (hl : 0 ≤ l ∧ l ≤ 3) (hT : T.length = 7) : ∀ {k}, k ≤ 3 → (S1 T S l k ++ (T1 T l k).flatten).Perm (S ++ T.flatten)
  | 0, _ => .refl _
  | k + 1, h => by
    refine List.Perm.trans ?_ (S1_perm T S hl hT (k := k) (by omega))
    have hp := (pth_int hl (show k < 3 by omega)).2
    simp only [S1, T1, List.append_assoc]
    exact (get_flat (by rw [T1_len]; omega)).symm.append_left _
theorem F3_perm (l : Int) (hl : 0 ≤ l ∧ l ≤ 3) (T : List (List Blk)) (S : List Blk) (hT : T.length = 7) : ∀ {k}, k ≤ 3 → ((F3 l T S k).2 ++ (F3 l T S k).1.flatten).Perm (S ++ T.flatten)
  | 0, _ => .refl _
  | k + 1, h => by
    refine List.Perm.trans ?_ (F3_perm l hl T S hT (k := k) (by omega))
    have hp := (pth_int hl (show 2 - k < 3 by omega)).2
    have hlen := F3_len l T S k
    simp only [F3]
    generalize hp' : pth l (2 - k) = p at *
    generalize (F3 l T S k).1 = X at *
    generalize (F3 l T S k).2 = L at *
    have h1 := fill_perm (i := (p : Int)) (B := X.getD p []) (L := L) (Nat.le_refl L.length)
    rw [List.take_length] at h1
    generalize fillK p (X.getD p []) L L.length = r at *
    have h2 := set_flat (X := r.1) (T := X) (p := p) (by omega)
    have h3 := get_flat (T := X) (p := p) (by omega)
    refine (h2.append_left r.2).trans ?_
    refine List.Perm.trans ?_ (h3.append_left L).symm
    rw [← List.append_assoc, ← List.append_assoc]
    refine List.Perm.append_right _ ?_
    exact List.perm_append_comm.trans (h1.trans List.perm_append_comm)
theorem upB_a (x : Int) (wr : Bool) (v l : Int) (b : Blk) : (upB x wr v l b).a = b.a := by unfold upB; split <;> rfl
theorem upB_other {x : Int} {wr : Bool} {v l : Int} {b : Blk} (h : b.a ≠ x) : upB x wr v l b = b := by unfold upB; rw [if_neg h]
theorem use_perm {T : List (List Blk)} {S : List Blk} {x v lf : Int} (wr : Bool) (h : useOk T S x v lf = true) : (usS T S x wr v lf ++ (usT T S x wr v lf).flatten).Perm ((S ++ T.flatten).map (upB x wr v lf)) := by
  obtain ⟨h1, h2, _⟩ := us_yes wr h
  rw [h1, h2]
  simp only [useOk, Bool.and_eq_true] at h
  have m := mem_ok h.1.1.1
  have hx := h.1.1.2
  have hf := (m.has x).2 hx
  obtain ⟨g1, g2⟩ := blkOf_mem hf
  have hl := ok_l (m.ok g1)
  have ho := S1_has m hx
  unfold usP usO
  generalize blkOf (S ++ T.flatten) x = o at *
  have p1 := S1_perm T S hl m.hT (k := 3) (by omega)
  have hT7 : (T1 T o.l 3).length = 7 := by rw [T1_len]; exact m.hT
  have p2 := F3_perm o.l hl (T1 T o.l 3) ((S1 T S o.l 3).map (upB x wr v lf)) hT7 (k := 3) (by omega)
  refine p2.trans (List.Perm.trans ?_ (p1.map _))
  rw [List.map_append]
  refine List.Perm.append_left _ ?_
  have nd := (vb_iff.1 m.hv).2
  have nd2 := (p1.map Blk.a).nodup_iff.2 nd
  rw [List.map_append] at nd2
  have key : (T1 T o.l 3).flatten.map (upB x wr v lf) = (T1 T o.l 3).flatten := by
    rw [List.map_congr_left (g := id) (fun b hb => ?_), List.map_id]
    refine upB_other fun e => ?_
    have := (List.nodup_append.1 nd2).2.2 o.a (List.mem_map.2 ⟨o, ho, rfl⟩) b.a (List.mem_map.2 ⟨b, hb, rfl⟩)
    exact this (by rw [g2, e])
  rw [key]
def bOk (q : Nat) (X : List Blk) : Prop := X.length ≤ 2 ∧ ∀ b, b ∈ X → onB b.l q = true
theorem fill_ok {i : Nat} {B L : List Blk} (h : bOk i B) : ∀ {j}, j ≤ L.length → bOk i (fillK i B L j).1
  | 0, _ => by simpa [fillK] using h
  | j + 1, hj => by
    have ih := fill_ok (L := L) h (j := j) (by omega)
    rw [fillK_succ (by omega)]
    generalize fillK i B L j = p at *
    unfold fillStep
    split
    · rename_i hc
      refine ⟨by simp only [List.length_append, List.length_singleton]; omega, fun b hb => ?_⟩
      simp only [List.mem_append, List.mem_singleton] at hb
      rcases hb with hb | rfl
      · exact ih.2 b hb
      · exact hc.2
    · exact ih
theorem F3_ok (l : Int) (hl : 0 ≤ l ∧ l ≤ 3) (T : List (List Blk)) (S : List Blk) (hT : T.length = 7) (h : ∀ q, bOk q (T.getD q [])) : ∀ {k}, k ≤ 3 → ∀ q, bOk q ((F3 l T S k).1.getD q [])
  | 0, _, q => h q
  | k + 1, hk, q => by
    have ih := F3_ok l hl T S hT h (k := k) (by omega)
    have hp := (pth_int hl (show 2 - k < 3 by omega)).2
    simp only [F3]
    rw [getD_setL (by rw [F3_len]; omega)]
    split
    · rename_i e
      subst e
      exact fill_ok (ih _) (Nat.le_refl _)
    · exact ih q
theorem MemOk.bok {T : List (List Blk)} {S : List Blk} (m : MemOk T S) (q : Nat) : bOk q (T.getD q []) := by
  by_cases hq : q < T.length
  · have h := m.hb q hq
    simp only [buB, Bool.and_eq_true, decide_eq_true_eq, allB_iff] at h
    refine ⟨h.1, fun b hb => ?_⟩
    obtain ⟨j, hj, rfl⟩ := List.getElem_of_mem hb
    have := h.2 j hj
    rwa [List.getD_eq_getElem?_getD (l := T.getD q []), List.getElem?_eq_getElem hj] at this
  · rw [getD_out hq]; exact ⟨by simp, fun b hb => (by cases hb)⟩
theorem use_valid {T : List (List Blk)} {S : List Blk} {x v lf : Int} (wr : Bool) (h : useOk T S x v lf = true) : memB (usT T S x wr v lf) (usS T S x wr v lf) = true := by
  have hp := use_perm wr h
  obtain ⟨h1, h2, _⟩ := us_yes wr h
  have h' := h
  simp only [useOk, Bool.and_eq_true] at h'
  have m := mem_ok h'.1.1.1
  have hx := h'.1.1.2
  have hf := (m.has x).2 hx
  obtain ⟨g1, g2⟩ := blkOf_mem hf
  have hl := ok_l (m.ok g1)
  have hlen : (usT T S x wr v lf).length = 7 := by
    rw [h1]; unfold usP; rw [F3_len, T1_len]; exact m.hT
  have hb : ∀ q, bOk q ((usT T S x wr v lf).getD q []) := by
    rw [h1]
    unfold usP
    refine F3_ok _ hl _ _ (by rw [T1_len]; exact m.hT) (fun q => ?_) (by omega)
    rcases T1_or T hl m.hT q (k := 3) (by omega) with e | e
    · rw [usO, e]; exact m.bok q
    · rw [usO, e]; exact ⟨by simp, fun b hb => (by cases hb)⟩
  simp only [memB, Bool.and_eq_true, decide_eq_true_eq, allB_iff]
  refine ⟨⟨⟨hlen, vb_iff.2 ⟨fun b hbm => ?_, ?_⟩⟩, fun q hq => ?_⟩, ?_⟩
  · obtain ⟨c, hc, rfl⟩ := List.mem_map.1 (hp.mem_iff.1 hbm)
    have hk := m.ok hc
    unfold upB
    split
    · simp only [okB, Bool.and_eq_true] at hk ⊢
      refine ⟨⟨hk.1.1, ?_⟩, h'.2⟩
      split
      · exact h'.1.2
      · exact hk.1.2
    · exact hk
  · refine (hp.map Blk.a).nodup_iff.2 ?_
    rw [List.map_map, show (Blk.a ∘ upB x wr v lf) = Blk.a from funext fun b => upB_a _ _ _ _ b]
    exact (vb_iff.1 m.hv).2
  · have := hb q
    simp only [buB, Bool.and_eq_true, decide_eq_true_eq, allB_iff]
    exact ⟨this.1, fun j hj => this.2 _ (getD_mem hj)⟩
  · rw [hp.length_eq, List.length_map]; exact m.hn
theorem use_blk {T : List (List Blk)} {S : List Blk} {x v lf : Int} (wr : Bool) (h : useOk T S x v lf = true) {y : Int} (hy : inB y 0 7 = true) : usO (usT T S x wr v lf) (usS T S x wr v lf) y = upB x wr v lf (usO T S y) := by
  have hp := use_perm wr h
  have m' := mem_ok (use_valid wr h)
  simp only [useOk, Bool.and_eq_true] at h
  have m := mem_ok h.1.1.1
  obtain ⟨g1, g2⟩ := blkOf_mem ((m'.has y).2 hy)
  obtain ⟨c, hc, e⟩ := List.mem_map.1 (hp.mem_iff.1 g1)
  have ec : c.a = y := by rw [← g2, ← e, upB_a]
  have := blk_uniq m.hv ((m.has y).2 hy) hc ec
  unfold usO
  rw [← e, this]
/-- The leaf of an address after k uses, by the leaves alone. -/
def plf (T : List (List Blk)) (S : List Blk) (U : List Us) : Nat → Int → Int
  | 0, y => (usO T S y).l
  | k + 1, y => if (U.getD k u0).a = y then (U.getD k u0).l else plf T S U k y
theorem run_leaf {T : List (List Blk)} {S : List Blk} {U : List Us} (hv : memB T S = true) : ∀ {k}, (∀ j, j < k → rOk T S U j = true) → memB (rM T S U k).1 (rM T S U k).2 = true ∧ ∀ y, inB y 0 7 = true → (usO (rM T S U k).1 (rM T S U k).2 y).l = plf T S U k y
  | 0, _ => ⟨hv, fun _ _ => rfl⟩
  | k + 1, h => by
    obtain ⟨h1, h2⟩ := run_leaf hv (k := k) fun j hj => h j (by omega)
    have h3 := h k (by omega)
    unfold rOk at h3
    refine ⟨use_valid _ h3, fun y hy => ?_⟩
    have e : usO (rM T S U (k + 1)).1 (rM T S U (k + 1)).2 y = upB (U.getD k u0).a (U.getD k u0).w (U.getD k u0).v (U.getD k u0).l (usO (rM T S U k).1 (rM T S U k).2 y) := use_blk _ h3 hy
    rw [e]
    simp only [useOk, Bool.and_eq_true] at h3
    obtain ⟨g1, g2⟩ := blkOf_mem (((mem_ok h1).has y).2 hy)
    have g3 : (usO (rM T S U k).1 (rM T S U k).2 y).a = y := g2
    simp only [plf]
    unfold upB
    rw [g3]
    by_cases c : (U.getD k u0).a = y
    · rw [if_pos c.symm, if_pos c]
    · rw [if_neg fun e => c e.symm, if_neg c]; exact h2 y hy
end Go.Gw
