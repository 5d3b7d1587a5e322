/- Memories: a block is used, by the program and by the model; with no condition. -/
import Derived.Test.YtopnhnnfobbocaaDoorMemU3
import Derived.KernelRfl
namespace Go.Gw
open Go Go.Proofs
set_option linter.unusedSimpArgs false
set_option linter.unusedVariables false
set_option maxRecDepth 100000

structure MemOk (T : List (List Blk)) (S : List Blk) : Prop where
  hT : T.length = 7
  hv : vbB (S ++ T.flatten) = true
  hb : ∀ i, i < T.length → buB T i = true
  hn : (S ++ T.flatten).length = 8
theorem mem_ok {T : List (List Blk)} {S : List Blk} (h : memB T S = true) : MemOk T S := by
  simp only [memB, Bool.and_eq_true, decide_eq_true_eq, allB_iff] at h
  exact ⟨h.1.1.1, h.1.1.2, h.1.2, h.2⟩
theorem MemOk.two {T : List (List Blk)} {S : List Blk} (h : MemOk T S) (i : Nat) : (T.getD i []).length ≤ 2 := by
  by_cases hi : i < T.length
  · have := h.hb i hi
    simp only [buB, Bool.and_eq_true, decide_eq_true_eq] at this
    exact this.1
  · rw [getD_out hi]; simp
theorem MemOk.ok {T : List (List Blk)} {S : List Blk} (h : MemOk T S) {b : Blk} (hb : b ∈ S ++ T.flatten) : okB b = true := vb_ok h.hv hb
theorem ok_a {b : Blk} (h : okB b = true) : 0 ≤ b.a ∧ b.a ≤ 7 := by
  simp only [okB, Bool.and_eq_true] at h
  exact inB_iff.1 h.1.1
theorem blkOf_mem {A : List Blk} {x : Int} (h : 0 ≤ fndB A x) : blkOf A x ∈ A ∧ (blkOf A x).a = x := by
  obtain ⟨h1, h2, _⟩ := ixP_spec (q := fun j => (A.getD j b0).a == x) h
  exact ⟨getD_mem h2, by unfold blkOf; simpa using h1⟩
theorem blk_uniq {A : List Blk} {x : Int} (hv : vbB A = true) (h : 0 ≤ fndB A x) {b : Blk} (hb : b ∈ A) (ha : b.a = x) : b = blkOf A x := by
  obtain ⟨h1, h2, h3⟩ := ixP_spec (q := fun j => (A.getD j b0).a == x) h
  obtain ⟨i, hi, rfl⟩ := List.getElem_of_mem hb
  have e : A.getD i b0 = A[i] := by simp [List.getD_eq_getElem?_getD, hi]
  unfold blkOf
  generalize (ixP (fun j => (A.getD j b0).a == x) A.length).toNat = k at *
  by_cases c1 : i < k
  · have := h3 i c1
    simp only [e, ha] at this
    simp at this
  · by_cases c2 : i = k
    · subst c2; exact e.symm
    · have g := allB_iff.1 hv i hi
      simp only [stepB, Bool.and_eq_true, Bool.not_eq_true'] at g
      rw [e, ha] at g
      have g2 : seenB A i x = true := by
        unfold seenB
        rw [allB_no (p := fun j => !((A.getD j b0).a == x)) (k := k) (by omega) (by rw [h1]; rfl)]; rfl
      rw [g2] at g; cases g.2
theorem MemOk.has {T : List (List Blk)} {S : List Blk} (h : MemOk T S) (x : Int) : 0 ≤ fndB (S ++ T.flatten) x ↔ inB x 0 7 = true := by
  constructor
  · intro h1
    obtain ⟨h2, h3⟩ := blkOf_mem h1
    have := ok_a (h.ok h2)
    rw [h3] at this
    exact inB_iff.2 this
  · intro h1
    have hx := inB_iff.1 h1
    have hok : ∀ j, j < (S ++ T.flatten).length → okB ((S ++ T.flatten).getD j b0) = true := fun j hj => h.ok (getD_mem hj)
    have hs := sum8 _ _ hok
    have hse : ∀ j, j < (S ++ T.flatten).length → seenB (S ++ T.flatten) j ((S ++ T.flatten).getD j b0).a = false := fun j hj => by
      have := allB_iff.1 h.hv j hj
      simp only [stepB, Bool.and_eq_true, Bool.not_eq_true'] at this
      exact this.2
    have c := fun x => cnt_one (S ++ T.flatten) x (S ++ T.flatten).length hse
    have c0 := c 0
    have c1 := c 1
    have c2 := c 2
    have c3 := c 3
    have c4 := c 4
    have c5 := c 5
    have c6 := c 6
    have c7 := c 7
    rw [h.hn] at hs c0 c1 c2 c3 c4 c5 c6 c7
    have hc : cntN (S ++ T.flatten) (S ++ T.flatten).length x = 1 := by
      rw [h.hn]
      have h5 : x = 0 ∨ x = 1 ∨ x = 2 ∨ x = 3 ∨ x = 4 ∨ x = 5 ∨ x = 6 ∨ x = 7 := by omega
      rcases h5 with rfl | rfl | rfl | rfl | rfl | rfl | rfl | rfl <;> omega
    have hs2 := seen_cnt (S ++ T.flatten) x (S ++ T.flatten).length
    rw [hc] at hs2
    unfold fndB
    rw [ixP_iff]
    simpa [seenB] using hs2
theorem leafM_ok {T : List (List Blk)} {S : List Blk} {x : Int} (h : memB T S = true) (hx : inB x 0 7 = true) : leafM T S x = (blkOf (S ++ T.flatten) x).l ∧ 0 ≤ (blkOf (S ++ T.flatten) x).l ∧ (blkOf (S ++ T.flatten) x).l ≤ 3 := by
  have m := mem_ok h
  have hf := (m.has x).2 hx
  refine ⟨?_, ok_l (m.ok (blkOf_mem hf).1)⟩
  unfold leafM
  rw [if_pos h, if_pos hf]
theorem leafM_no {T : List (List Blk)} {S : List Blk} {x : Int} (h : ¬ (memB T S = true ∧ inB x 0 7 = true)) : leafM T S x = -1 := by
  unfold leafM
  by_cases h1 : memB T S = true
  · have hf : ¬ 0 ≤ fndB (S ++ T.flatten) x := fun h2 => h ⟨h1, ((mem_ok h1).has x).1 h2⟩
    rw [if_pos h1, if_neg hf]
  · rw [if_neg h1]
theorem T1_eq (T : List (List Blk)) {l : Int} (hl : 0 ≤ l ∧ l ≤ 3) (hT : T.length = 7) (q : Nat) : ∀ {k}, k ≤ 3 → (∀ j, j < k → q ≠ pth l j) → (T1 T l k).getD q [] = T.getD q []
  | 0, _, _ => rfl
  | k + 1, hk, h => by
    have h2 := (pth_int hl (show k < 3 by omega)).2
    simp only [T1]
    rw [getD_setL (by rw [T1_len]; omega), if_neg (h k (by omega))]
    exact T1_eq T hl hT q (by omega) fun j hj => h j (by omega)
theorem S1_sub (T : List (List Blk)) (S : List Blk) (l : Int) {b : Blk} {k : Nat} (h : b ∈ S1 T S l k) : ∀ {n}, k ≤ n → b ∈ S1 T S l n := fun {n} hn => by
  induction n with
  | zero => have : k = 0 := by omega
            subst this; exact h
  | succ n ih =>
    by_cases e : k = n + 1
    · subst e; exact h
    · exact List.mem_append_left _ (ih (by omega))
theorem S1_has {T : List (List Blk)} {S : List Blk} {x : Int} (m : MemOk T S) (hx : inB x 0 7 = true) : blkOf (S ++ T.flatten) x ∈ S1 T S (blkOf (S ++ T.flatten) x).l 3 := by
  have hf := (m.has x).2 hx
  obtain ⟨h1, h2⟩ := blkOf_mem hf
  have hl := ok_l (m.ok h1)
  generalize blkOf (S ++ T.flatten) x = o at *
  rcases List.mem_append.1 h1 with h3 | h3
  · exact S1_sub T S o.l (k := 0) h3 (by omega)
  · obtain ⟨X, hX, ho⟩ := List.mem_flatten.1 h3
    obtain ⟨i, hi, rfl⟩ := List.getElem_of_mem hX
    have hi7 : i < T.length := hi
    have e : T.getD i [] = T[i] := by simp [List.getD_eq_getElem?_getD, hi]
    rw [← e] at ho
    have hb := m.hb i hi
    simp only [buB, Bool.and_eq_true, allB_iff] at hb
    obtain ⟨j, hj, rfl⟩ := List.getElem_of_mem ho
    have hon := hb.2 j hj
    have e2 : (T.getD i []).getD j b0 = (T.getD i [])[j] := by rw [List.getD_eq_getElem?_getD, List.getElem?_eq_getElem hj]; rfl
    rw [e2] at hon
    generalize (T.getD i [])[j] = o at *
    have key : ∀ k, k < 3 → i = pth o.l k → o ∈ S1 T S o.l 3 := fun k hk hik => by
      refine S1_sub T S o.l (k := k + 1) (List.mem_append_right _ ?_) (by omega)
      rw [T1_eq T hl m.hT (pth o.l k) (by omega) (fun j hj => pth_ne hl (by omega) (by omega) (by omega)), ← hik]
      exact ho
    simp only [onB, Bool.or_eq_true, beq_iff_eq] at hon
    rcases hon with (hon | hon) | hon
    · exact key 0 (by omega) (by simp [pth, pathL, litI]; omega)
    · exact key 1 (by omega) (by simp [pth, pathL, litI]; omega)
    · exact key 2 (by omega) (by simp [pth, pathL, litI]; omega)
theorem had_all {x : Int} {A : List Blk} {V : Int} (hV : ∀ j, j < A.length → (A.getD j b0).a = x → (A.getD j b0).v = V) : ∀ k, k ≤ A.length → (∃ j, j < k ∧ (A.getD j b0).a = x) → hadK x A k = V
  | 0, _, h => by obtain ⟨j, hj, _⟩ := h; omega
  | k + 1, hk, h => by
    simp only [hadK]
    by_cases c : (A.getD k b0).a = x
    · rw [if_pos c]; exact hV k (by omega) c
    · rw [if_neg c]
      obtain ⟨j, hj, hjx⟩ := h
      refine had_all hV k (by omega) ⟨j, ?_, hjx⟩
      by_cases e : j = k
      · subst e; exact absurd hjx c
      · omega
theorem had_eq {T : List (List Blk)} {S : List Blk} {x : Int} (m : MemOk T S) (hx : inB x 0 7 = true) {A : List Blk} (hA : A = S1 T S (blkOf (S ++ T.flatten) x).l 3) : hadK x A A.length = (blkOf (S ++ T.flatten) x).v := by
  have hf := (m.has x).2 hx
  have h1 := S1_has m hx
  have hl := ok_l (m.ok (blkOf_mem hf).1)
  have hs := S1_mem T S hl m.hT (k := 3) (by omega)
  rw [← hA] at h1 hs
  refine had_all (fun j hj ha => ?_) A.length (Nat.le_refl _) ?_
  · rw [blk_uniq m.hv hf (hs _ (getD_mem hj)) ha]
  · obtain ⟨i, hi, e⟩ := List.getElem_of_mem h1
    refine ⟨i, hi, ?_⟩
    have e2 : A.getD i b0 = A[i] := by simp [List.getD_eq_getElem?_getD, hi]
    rw [e2, e]
    exact (blkOf_mem hf).2
theorem flat_bound {c : Nat} : ∀ {T : List (List Blk)}, (∀ X, X ∈ T → X.length ≤ c) → T.flatten.length ≤ T.length * c
  | [], _ => by simp
  | X :: T, h => by
    have h1 := h X (by simp)
    have h2 := flat_bound (T := T) fun Y hY => h Y (by simp [hY])
    simp only [List.flatten_cons, List.length_append, List.length_cons, Nat.succ_mul]
    omega
theorem F3_two (l : Int) (hl : 0 ≤ l ∧ l ≤ 3) (T : List (List Blk)) (S : List Blk) (hT : T.length = 7) (c : Nat) (h : ∀ q, (T.getD q []).length ≤ c) : ∀ {k}, k ≤ 3 → ∀ q, ((F3 l T S k).1.getD q []).length ≤ c + S.length * k
  | 0, _, q => by simpa [F3] using h q
  | k + 1, hk, q => by
    have ih := F3_two l hl T S hT c h (k := k) (by omega)
    have hp := (pth_int hl (show 2 - k < 3 by omega)).2
    have hm := (F3_mem l T S k).2
    simp only [F3]
    rw [getD_setL (by rw [F3_len]; omega)]
    have e : S.length * (k + 1) = S.length * k + S.length := by rw [Nat.mul_succ]
    split
    · have g := (fill_mem (i := ((pth l (2 - k) : Nat) : Int)) (B := (F3 l T S k).1.getD (pth l (2 - k)) []) (L := (F3 l T S k).2) (Nat.le_refl _)).2.2.1
      have := ih (pth l (2 - k))
      omega
    · have := ih q; omega
theorem use_bound {T : List (List Blk)} {S : List Blk} {x : Int} (m : MemOk T S) (hx : inB x 0 7 = true) {wr : Bool} {v lf : Int} {l : Int} (hl : l = (blkOf (S ++ T.flatten) x).l) :
    (F3 l (T1 T l 3) ((S1 T S l 3).map (upB x wr v lf)) 3).2.length + (F3 l (T1 T l 3) ((S1 T S l 3).map (upB x wr v lf)) 3).1.flatten.length ≤ 1000 ∧ (F3 l (T1 T l 3) ((S1 T S l 3).map (upB x wr v lf)) 3).1.length = 7 := by
  have hf := (m.has x).2 hx
  have hl2 : 0 ≤ l ∧ l ≤ 3 := hl ▸ ok_l (m.ok (blkOf_mem hf).1)
  have hS8 : S.length ≤ 8 := by have := m.hn; rw [List.length_append] at this; omega
  have h1 := S1_len T S hl2 m.hT m.two (k := 3) (by omega)
  have hT7 : (T1 T l 3).length = 7 := by rw [T1_len]; exact m.hT
  have hlen : ((S1 T S l 3).map (upB x wr v lf)).length ≤ 14 := by rw [List.length_map]; omega
  generalize (S1 T S l 3).map (upB x wr v lf) = A at *
  have hq : ∀ q, ((T1 T l 3).getD q []).length ≤ 2 := fun q => by
    rcases T1_or T hl2 m.hT q (k := 3) (by omega) with e | e
    · rw [e]; exact m.two q
    · rw [e]; simp
  have hm := (F3_mem l (T1 T l 3) A 3).2
  have hb := F3_two l hl2 (T1 T l 3) A hT7 2 hq (k := 3) (by omega)
  have hL : (F3 l (T1 T l 3) A 3).1.length = 7 := by rw [F3_len]; exact hT7
  generalize (F3 l (T1 T l 3) A 3).1 = X at *
  refine ⟨?_, hL⟩
  have := flat_bound (c := 44) (T := X) fun Y hY => by
    obtain ⟨i, hi, rfl⟩ := List.getElem_of_mem hY
    have := hb i
    rw [List.getD_eq_getElem?_getD, List.getElem?_eq_getElem hi] at this
    simp only [Option.getD_some] at this
    omega
  rw [hL] at this
  omega
/-! ### the result -/
def useOk (T : List (List Blk)) (S : List Blk) (x v lf : Int) : Bool := memB T S && inB x 0 7 && valB v && inB lf 0 3
def usO (T : List (List Blk)) (S : List Blk) (x : Int) : Blk := blkOf (S ++ T.flatten) x
def usP (T : List (List Blk)) (S : List Blk) (x : Int) (wr : Bool) (v lf : Int) : List (List Blk) × List Blk := F3 (usO T S x).l (T1 T (usO T S x).l 3) ((S1 T S (usO T S x).l 3).map (upB x wr v lf)) 3
def usT (T : List (List Blk)) (S : List Blk) (x : Int) (wr : Bool) (v lf : Int) : List (List Blk) := if useOk T S x v lf then (usP T S x wr v lf).1 else []
def usS (T : List (List Blk)) (S : List Blk) (x : Int) (wr : Bool) (v lf : Int) : List Blk := if useOk T S x v lf then (usP T S x wr v lf).2 else []
def usV (T : List (List Blk)) (S : List Blk) (x v lf : Int) : Int := if useOk T S x v lf then (usO T S x).v else 0
def usN (T : List (List Blk)) (S : List Blk) (x v lf : Int) : Nat := if useOk T S x v lf then 3 else 0
abbrev usR (T : List (List Blk)) (S : List Blk) (x v lf : Int) : AV := .tp [.ag [.own 0, .own 1], AI (usV T S x v lf), .own 2, AB (useOk T S x v lf)]
abbrev usH (T : List (List Blk)) (S : List Blk) (x : Int) (wr : Bool) (v lf : Int) : List (Nat × Ob) := [(0, .row .u false 1 (usT T S x wr v lf).length (BB (usT T S x wr v lf)) []), (1, .row .u false 3 (usS T S x wr v lf).length (SB (usS T S x wr v lf)) []), (2, .row .u false 1 (usN T S x v lf) (PA (usO T S x).l) [])]
theorem us_no {T : List (List Blk)} {S : List Blk} {x v lf : Int} (wr : Bool) (h : useOk T S x v lf = false) : usT T S x wr v lf = [] ∧ usS T S x wr v lf = [] ∧ usV T S x v lf = 0 ∧ usN T S x v lf = 0 := by
  simp [usT, usS, usV, usN, h]
theorem us_yes {T : List (List Blk)} {S : List Blk} {x v lf : Int} (wr : Bool) (h : useOk T S x v lf = true) : usT T S x wr v lf = (usP T S x wr v lf).1 ∧ usS T S x wr v lf = (usP T S x wr v lf).2 ∧ usV T S x v lf = (usO T S x).v ∧ usN T S x v lf = 3 := by
  simp [usT, usS, usV, usN, h]
theorem c_imMU (T : List (List Blk)) (S : List Blk) (x : Int) (wr : Bool) (v lf : Int) (hT : T.length ≤ 1048576) (hS : S.length + T.flatten.length ≤ 1048576) : PObj Tryd.prog G0 68 [ME T S, AI x, AB wr, AI v, AI lf] [] (usR T S x v lf) (usH T S x wr v lf) := by
  refine PObj.by chk68 rfl (ev_imU T S x wr v lf) ?_
  simp only [VC.holds_split, VC.holds_need, VC.holds_doneP, VC.holds_done, VC.holds_either, VC.holds_call, VC.holds_callE, VC.holds_lend, VC.holds_stop, VC.holds_fail, decide_eq_true_eq, decide_eq_false_iff_not]
  have none : useOk T S x v lf = false → usR T S x v lf = .tp [.ag [.own 0, .own 1], AI 0, .own 2, AB false] ∧ usH T S x wr v lf = [(0, .row .u false 1 0 (BB []) []), (1, .row .u false 3 0 (SB []) []), (2, .row .u false 1 0 (PA (usO T S x).l) [])] := fun h => by
    obtain ⟨h1, h2, h3, h4⟩ := us_no wr h
    simp only [usR, usH, h1, h2, h3, h4, h]
    refine ⟨?_, ?_⟩ <;> first | trivial | rfl
  refine ⟨c_mV T S hT hS, fun h => ?_, fun h1 => ⟨c_isA _, fun h => ?_, fun h2 => ⟨c_isValue _, fun h => ?_, fun h3 => ⟨c_isL _, fun h => ?_, fun h4 => ?_⟩⟩⟩⟩
  · obtain ⟨e1, e2⟩ := none (by simp only [useOk, not_t h, Bool.false_and])
    rw [e1, e2]
    refine ResOk.mk [] [] [0, 1, 2] _ _ ?_ ⟨rfl, rfl⟩
    simp [doneC, resOf, resAV, tup, pinR, PV.Le_self, hbs, St.lowers, St.lower, stLe, leEnv, leObs, obLe, injB, pinC, AV.leC, AV.leCs, PV.leC, PV.Le_v, St.get, St.obj, look, rho, isNew, keptC, renH, Mode.ok, Mode.isZ, PV.isVal, PV.isNilSl, List.all_nil, List.all_cons, List.any_nil, List.any_cons, List.map_nil, List.map_cons, res68]
  · obtain ⟨e1, e2⟩ := none (by simp only [useOk, not_t h, Bool.false_and, Bool.and_false])
    rw [e1, e2]
    refine ResOk.mk [] [] [0, 1, 2] _ _ ?_ ⟨rfl, rfl⟩
    simp [doneC, resOf, resAV, tup, pinR, PV.Le_self, hbs, St.lowers, St.lower, stLe, leEnv, leObs, obLe, injB, pinC, AV.leC, AV.leCs, PV.leC, PV.Le_v, St.get, St.obj, look, rho, isNew, keptC, renH, Mode.ok, Mode.isZ, PV.isVal, PV.isNilSl, List.all_nil, List.all_cons, List.any_nil, List.any_cons, List.map_nil, List.map_cons, res68]
  · obtain ⟨e1, e2⟩ := none (by simp only [useOk, not_t h, Bool.false_and, Bool.and_false])
    rw [e1, e2]
    refine ResOk.mk [] [] [0, 1, 2] _ _ ?_ ⟨rfl, rfl⟩
    simp [doneC, resOf, resAV, tup, pinR, PV.Le_self, hbs, St.lowers, St.lower, stLe, leEnv, leObs, obLe, injB, pinC, AV.leC, AV.leCs, PV.leC, PV.Le_v, St.get, St.obj, look, rho, isNew, keptC, renH, Mode.ok, Mode.isZ, PV.isVal, PV.isNilSl, List.all_nil, List.all_cons, List.any_nil, List.any_cons, List.map_nil, List.map_cons, res68]
  · obtain ⟨e1, e2⟩ := none (by simp only [useOk, not_t h, Bool.false_and, Bool.and_false])
    rw [e1, e2]
    refine ResOk.mk [] [] [0, 1, 2] _ _ ?_ ⟨rfl, rfl⟩
    simp [doneC, resOf, resAV, tup, pinR, PV.Le_self, hbs, St.lowers, St.lower, stLe, leEnv, leObs, obLe, injB, pinC, AV.leC, AV.leCs, PV.leC, PV.Le_v, St.get, St.obj, look, rho, isNew, keptC, renH, Mode.ok, Mode.isZ, PV.isVal, PV.isNilSl, List.all_nil, List.all_cons, List.any_nil, List.any_cons, List.map_nil, List.map_cons, res68]
  · have hv := not_f h1
    have hx := not_f h2
    have m := mem_ok hv
    have hok : useOk T S x v lf = true := by simp only [useOk, hv, hx, not_f h3, not_f h4, Bool.and_self]
    have hf := (m.has x).2 hx
    obtain ⟨h1, h2⟩ := blkOf_mem hf
    have hl := ok_l (m.ok h1)
    obtain ⟨u1, u2, u3, u4⟩ := us_yes wr hok
    have ub := use_bound m hx (wr := wr) (v := v) (lf := lf) (l := (usO T S x).l) rfl
    have hS8 : S.length ≤ 8 := by have := m.hn; rw [List.length_append] at this; omega
    simp only [usR, usH, u1, u2, u3, u4, hok]
    refine ⟨c_cl T S hT hS, c_block T S x hT hS hf, c_path _ hl, st1_im x wr v lf (usO T S x).l (usO T S x) T S _ _ rfl rfl hl (inB_iff.1 (not_f h4)) m.hT (by omega) m.two (fun b hb => ok_l (m.ok (S1_mem T S hl m.hT (k := 3) (by omega) b hb))) (by have := ub.1; omega) _ ⟨rfl, rfl⟩ _ ?_⟩
    simp only [st_imU1, T1, S1]
    simp [hbs, St.lowers, St.lower, stLe, leEnv, leObs, obLe, injB, pinC, AV.leC, AV.leCs, PV.leC, PV.Le_v, St.get, St.obj, look, rho, isNew, keptC, renH, Mode.ok, Mode.isZ, PV.isVal, PV.isNilSl, List.all_nil, List.all_cons, List.any_nil, List.any_cons, List.map_nil, List.map_cons, PV.Le_self, usO]
theorem c_spMU (T : List (List Blk)) (S : List Blk) (x : Int) (wr : Bool) (v lf : Int) (hT : T.length ≤ 1048576) (hS : S.length + T.flatten.length ≤ 1048576) : PObj Tryd.prog G0 181 [ME T S, AI x, AB wr, AI v, AI lf] [] (usR T S x v lf) (usH T S x wr v lf) := by
  refine PObj.by chk181 rfl (ev_spU T S x wr v lf) ?_
  simp only [VC.holds_split, VC.holds_need, VC.holds_doneP, VC.holds_done, VC.holds_either, VC.holds_call, VC.holds_callE, VC.holds_lend, VC.holds_stop, VC.holds_fail, decide_eq_true_eq, decide_eq_false_iff_not]
  have none : useOk T S x v lf = false → usR T S x v lf = .tp [.ag [.own 0, .own 1], AI 0, .own 2, AB false] ∧ usH T S x wr v lf = [(0, .row .u false 1 0 (BB []) []), (1, .row .u false 3 0 (SB []) []), (2, .row .u false 1 0 (PA (usO T S x).l) [])] := fun h => by
    obtain ⟨h1, h2, h3, h4⟩ := us_no wr h
    simp only [usR, usH, h1, h2, h3, h4, h]
    refine ⟨?_, ?_⟩ <;> first | trivial | rfl
  have lo : ¬ leafM T S x < 0 → memB T S = true ∧ inB x 0 7 = true := fun h => by
    by_cases c : memB T S = true ∧ inB x 0 7 = true
    · exact c
    · rw [leafM_no c] at h; omega
  refine ⟨c_lf T S x hT hS, fun h => ?_, fun h1 => ⟨c_l1In _ _ _, fun h => ?_, fun h3 => ⟨c_l1In _ _ _, fun h => ?_, fun h4 => ?_⟩⟩⟩
  · have : useOk T S x v lf = false := by
      cases e : useOk T S x v lf with
      | false => rfl
      | true =>
        simp only [useOk, Bool.and_eq_true] at e
        have := leafM_ok e.1.1.1 e.1.1.2
        omega
    obtain ⟨e1, e2⟩ := none this
    rw [e1, e2]
    refine ResOk.mk [] [(2, 39)] [0, 1] _ _ ?_ ⟨rfl, rfl⟩
    simp [doneC, resOf, resAV, tup, pinR, PV.Le_self, hbs, St.lowers, St.lower, stLe, leEnv, leObs, obLe, injB, pinC, AV.leC, AV.leCs, PV.leC, PV.Le_v, St.get, St.obj, look, rho, isNew, keptC, renH, Mode.ok, Mode.isZ, PV.isVal, PV.isNilSl, List.all_nil, List.all_cons, List.any_nil, List.any_cons, List.map_nil, List.map_cons, res181]
  · have e0 : valB v = false := not_t h
    obtain ⟨e1, e2⟩ := none (by simp only [useOk, e0, Bool.false_and, Bool.and_false])
    rw [e1, e2]
    refine ResOk.mk [] [(2, 39)] [0, 1] _ _ ?_ ⟨rfl, rfl⟩
    simp [doneC, resOf, resAV, tup, pinR, PV.Le_self, hbs, St.lowers, St.lower, stLe, leEnv, leObs, obLe, injB, pinC, AV.leC, AV.leCs, PV.leC, PV.Le_v, St.get, St.obj, look, rho, isNew, keptC, renH, Mode.ok, Mode.isZ, PV.isVal, PV.isNilSl, List.all_nil, List.all_cons, List.any_nil, List.any_cons, List.map_nil, List.map_cons, res181]
  · obtain ⟨e1, e2⟩ := none (by simp only [useOk, not_t h, Bool.false_and, Bool.and_false])
    rw [e1, e2]
    refine ResOk.mk [] [(2, 39)] [0, 1] _ _ ?_ ⟨rfl, rfl⟩
    simp [doneC, resOf, resAV, tup, pinR, PV.Le_self, hbs, St.lowers, St.lower, stLe, leEnv, leObs, obLe, injB, pinC, AV.leC, AV.leCs, PV.leC, PV.Le_v, St.get, St.obj, look, rho, isNew, keptC, renH, Mode.ok, Mode.isZ, PV.isVal, PV.isNilSl, List.all_nil, List.all_cons, List.any_nil, List.any_cons, List.map_nil, List.map_cons, res181]
  · obtain ⟨hv, hx⟩ := lo h1
    have m := mem_ok hv
    have hval : valB v = true := not_f h3
    have hok : useOk T S x v lf = true := by simp only [useOk, hv, hx, hval, not_f h4, Bool.and_self]
    have hf := (m.has x).2 hx
    obtain ⟨g1, g2⟩ := blkOf_mem hf
    have hl := ok_l (m.ok g1)
    obtain ⟨u1, u2, u3, u4⟩ := us_yes wr hok
    have hS8 : S.length ≤ 8 := by have := m.hn; rw [List.length_append] at this; omega
    have el : leafM T S x = (usO T S x).l := (leafM_ok hv hx).1
    simp only [usR, usH, u1, u2, u3, u4, hok, el]
    have hd := had_eq m hx (A := S1 T S (usO T S x).l 3) rfl
    refine ⟨c_sPath3 _ hl, c_cM T S hT hS, st1_sp x wr v lf (usO T S x).l T S _ _ rfl rfl hl (inB_iff.1 (not_f h4)) m.hT (by omega) m.two (fun b hb => ok_l (m.ok (S1_mem T S hl m.hT (k := 3) (by omega) b hb))) _ ⟨by rw [hd]; rfl, rfl⟩ _ ?_⟩
    simp only [st_spU1, T1, S1]
    simp [hbs, St.lowers, St.lower, stLe, leEnv, leObs, obLe, injB, pinC, AV.leC, AV.leCs, PV.leC, PV.Le_v, St.get, St.obj, look, rho, isNew, keptC, renH, Mode.ok, Mode.isZ, PV.isVal, PV.isNilSl, List.all_nil, List.all_cons, List.any_nil, List.any_cons, List.map_nil, List.map_cons, PV.Le_self]
end Go.Gw
