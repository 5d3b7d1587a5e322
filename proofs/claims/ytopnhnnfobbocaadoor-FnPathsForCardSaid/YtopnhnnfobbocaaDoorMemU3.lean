/- Memories: a block is used, from the beginning; with no condition. -/
import Derived.Test.YtopnhnnfobbocaaDoorMemU2
import Derived.KernelRfl
namespace Go.Gw
open Go Go.Proofs
set_option linter.unusedSimpArgs false
set_option linter.unusedVariables false
set_option maxRecDepth 100000

theorem updL_len (x : Int) (wr : Bool) (v l : Int) (A : List Blk) (k : Nat) : (updL x wr v l A k).length = A.length := by
  simp only [updL, List.length_append, List.length_map, List.length_take, List.length_drop]; omega
theorem updL_get (x : Int) (wr : Bool) (v l : Int) {A : List Blk} {k i : Nat} (hi : i < A.length) : (updL x wr v l A k).getD i b0 = if i < k then upB x wr v l (A.getD i b0) else A.getD i b0 := by
  unfold updL
  rw [getD_app]
  simp only [List.length_map, List.length_take, List.getD_eq_getElem?_getD, List.getElem?_map, List.getElem?_take, List.getElem?_drop]
  by_cases h : i < k
  · rw [if_pos (by omega), if_pos h, if_pos h, List.getElem?_eq_getElem hi]; rfl
  · rw [if_neg (by omega), if_neg h, show min k A.length = k from by omega, show k + (i - k) = i by omega]
theorem updL_all (x : Int) (wr : Bool) (v l : Int) (A : List Blk) : updL x wr v l A A.length = A.map (upB x wr v l) := by
  simp [updL]
theorem upd_step {x : Int} {wr : Bool} {v lf : Int} {A : List Blk} {k i c : Nat} (hk : k < A.length) (hi : i < A.length) (hc : c < 3) (hx : ((A.getD k b0).a == x) = true) :
    PV.Le ((if wr then setG [(k, 1, PI v)] (setG [(k, 2, PI lf)] (SB (updL x wr v lf A k))) else setG [(k, 2, PI lf)] (SB (updL x wr v lf A k))) i c) (SB (updL x wr v lf A (k + 1)) i c) := by
  have ha : (A.getD k b0).a = x := by simpa using hx
  have g1 := updL_get x wr v lf (A := A) (k := k) hi
  have g2 := updL_get x wr v lf (A := A) (k := k + 1) hi
  by_cases h : i = k
  · subst h
    rw [if_neg (by omega)] at g1
    rw [if_pos (by omega)] at g2
    simp only [SB, g2]
    unfold upB
    rw [if_pos ha]
    match c, hc with
    | 0, _ => cases wr <;> simp [setG, cellSet, Blk.col] <;> first | exact .refl _ | (simp only [SB, g1]; exact .refl _)
    | 1, _ => cases wr <;> simp [setG, cellSet, Blk.col] <;> first | exact .refl _ | (simp only [SB, g1]; exact .refl _)
    | 2, _ => cases wr <;> simp [setG, cellSet, Blk.col] <;> first | exact .refl _ | (simp only [SB, g1]; exact .refl _)
  · have e : (updL x wr v lf A (k + 1)).getD i b0 = (updL x wr v lf A k).getD i b0 := by
      rw [g1, g2]
      by_cases h2 : i < k
      · rw [if_pos h2, if_pos (by omega)]
      · rw [if_neg h2, if_neg (by omega)]
    cases wr <;> simp only [setG, cellSet, h, and_false, if_false, if_true, Bool.false_eq_true] <;> exact SB_le e.symm
theorem upd_same {x : Int} {wr : Bool} {v lf : Int} {A : List Blk} {k i : Nat} (hi : i < A.length) (hx : ((A.getD k b0).a == x) = false) : (updL x wr v lf A k).getD i b0 = (updL x wr v lf A (k + 1)).getD i b0 := by
  have ha : ¬ (A.getD k b0).a = x := by simpa using hx
  have g1 := updL_get x wr v lf (A := A) (k := k) hi
  have g2 := updL_get x wr v lf (A := A) (k := k + 1) hi
  rw [g1, g2]
  by_cases h : i = k
  · subst h
    rw [if_neg (by omega), if_pos (by omega)]
    unfold upB; rw [if_neg ha]
  · by_cases h2 : i < k
    · rw [if_pos h2, if_pos (by omega)]
    · rw [if_neg h2, if_neg (by omega)]
theorem T1_or (T : List (List Blk)) {l : Int} (hl : 0 ≤ l ∧ l ≤ 3) (hT : T.length = 7) (q : Nat) : ∀ {k}, k ≤ 3 → (T1 T l k).getD q [] = T.getD q [] ∨ (T1 T l k).getD q [] = []
  | 0, _ => .inl rfl
  | k + 1, hk => by
    have h := (pth_int hl (show k < 3 by omega)).2
    simp only [T1]
    rw [getD_setL (by rw [T1_len]; omega)]
    by_cases c : q = pth l k
    · rw [if_pos c]; exact .inr rfl
    · rw [if_neg c]; exact T1_or T hl hT q (by omega)
theorem S1_len (T : List (List Blk)) (S : List Blk) {l : Int} (hl : 0 ≤ l ∧ l ≤ 3) (hT : T.length = 7) (hb : ∀ i, (T.getD i []).length ≤ 2) : ∀ {k}, k ≤ 3 → (S1 T S l k).length ≤ S.length + 2 * k
  | 0, _ => Nat.le_refl _
  | k + 1, hk => by
    have h := S1_len T S hl hT hb (k := k) (by omega)
    simp only [S1, List.length_append]
    have := hb (pth l k)
    rcases T1_or T hl hT (pth l k) (k := k) (by omega) with e | e
    · rw [e]; omega
    · rw [e]; simp; omega
theorem getD_out {T : List (List Blk)} {i : Nat} (h : ¬ i < T.length) : T.getD i [] = [] := by
  simp [List.getD_eq_getElem?_getD, show T.length ≤ i by omega]
theorem S1_mem (T : List (List Blk)) (S : List Blk) {l : Int} (hl : 0 ≤ l ∧ l ≤ 3) (hT : T.length = 7) : ∀ {k}, k ≤ 3 → ∀ b, b ∈ S1 T S l k → b ∈ S ++ T.flatten
  | 0, _, b, h => List.mem_append_left _ h
  | k + 1, hk, b, h => by
    simp only [S1, List.mem_append] at h
    rcases h with h | h
    · exact S1_mem T S hl hT (k := k) (by omega) b h
    · rcases T1_or T hl hT (pth l k) (k := k) (by omega) with e | e
      · rw [e] at h
        refine List.mem_append_right _ (List.mem_flatten.2 ⟨_, getD_mem (i := pth l k) ?_, h⟩)
        have := (pth_int hl (show k < 3 by omega)).2
        omega
      · rw [e] at h; cases h
theorem st2_im (x : Int) (wr : Bool) (v lf l : Int) (o : Blk) (T : List (List Blk)) (A : List Blk) (hl : 0 ≤ l ∧ l ≤ 3) (hlf : 0 ≤ lf ∧ lf ≤ 3) (hT : T.length = 7) (hA : A.length ≤ 1000) (hv : ∀ b, b ∈ A → 0 ≤ b.l ∧ b.l ≤ 3) (hF : (F3 l T (A.map (upB x wr v lf)) 3).2.length + (F3 l T (A.map (upB x wr v lf)) 3).1.flatten.length ≤ 1048576) (R : AV → List (Nat × Ob) → Prop)
    (hR : R (.tp [.ag [.own 0, .own 1], AI o.v, .own 2, AB true]) (useH3 (F3 l T (A.map (upB x wr v lf)) 3).1 (F3 l T (A.map (upB x wr v lf)) 3).2 l)) (s : St) (hs : stLe (s.lowers []) (st_imU2 x wr v lf l o T A 0) [] []) :
    (VC.loop ir68_L2 [Item.bend 2, Item.ir ir68_T8] s).holds Tryd.prog G0 res68 [] R := by
  refine loop_by (st_imU2 x wr v lf l o T A) (fun k => k ≤ A.length) (fun k => A.length - k) 0 [] [] [] (by omega) hs (evr_imU2 x wr v lf l o T A) fun k hk => ?_
  have ek : IntKind.i64.wrap ((k : Int) + 1) = ((k + 1 : Nat) : Int) := wrap_in (by omega) (by omega)
  simp only [VC.holds_split, VC.holds_need, VC.holds_doneP, VC.holds_done, VC.holds_either, VC.holds_call, VC.holds_callE, VC.holds_lend, VC.holds_stop, VC.holds_fail, decide_eq_true_eq, decide_eq_false_iff_not, Int.toNat_natCast, updL_len, Nat.zero_add, Nat.add_zero, col0, col1, col2]
  refine ⟨fun h0 => ?_, fun h0 => ?_⟩
  · have hkA : k < A.length := by omega
    have gk := updL_get x wr v lf (A := A) (k := k) hkA
    rw [if_neg (by omega)] at gk
    simp only [gk]
    have l1 := updL_len x wr v lf A k
    have l2 := updL_len x wr v lf A (k + 1)
    
    refine ⟨⟨by omega, by omega⟩, by omega, fun h1 => ⟨⟨by omega, by omega⟩, by omega, fun h2 => ⟨⟨by omega, by omega⟩, by omega, Again.mk (k + 1) [] [] [] (by omega) (by omega) ?_⟩, fun h2 => Again.mk (k + 1) [] [] [] (by omega) (by omega) ?_⟩, fun h1 => Again.mk (k + 1) [] [] [] (by omega) (by omega) ?_⟩
    · subst h2
      have hu := fun i c hi hc => upd_step (wr := true) (v := v) (lf := lf) (i := i) (c := c) hkA hi hc h1
      simp only [if_true] at hu
      
      simp only [st_imU2, ek]
      generalize updL x true v lf A k = X at *
      generalize updL x true v lf A (k + 1) = Y at *
      generalize A.getD k b0 = bb at *
      simp [hbs, St.lowers, St.lower, stLe, leEnv, leObs, obLe, injB, pinC, AV.leC, AV.leCs, PV.leC, PV.Le_v, St.get, St.obj, look, rho, isNew, keptC, renH, Mode.ok, Mode.isZ, PV.isVal, PV.isNilSl, List.all_nil, List.all_cons, List.any_nil, List.any_cons, List.map_nil, List.map_cons, PV.Le_self, l1, l2]
      exact hu
    · have h2' : wr = false := by simpa using h2
      subst h2'
      have hu := fun i c hi hc => upd_step (wr := false) (v := v) (lf := lf) (i := i) (c := c) hkA hi hc h1
      simp only [if_false, Bool.false_eq_true] at hu
      
      simp only [st_imU2, ek]
      generalize updL x false v lf A k = X at *
      generalize updL x false v lf A (k + 1) = Y at *
      generalize A.getD k b0 = bb at *
      simp [hbs, St.lowers, St.lower, stLe, leEnv, leObs, obLe, injB, pinC, AV.leC, AV.leCs, PV.leC, PV.Le_v, St.get, St.obj, look, rho, isNew, keptC, renH, Mode.ok, Mode.isZ, PV.isVal, PV.isNilSl, List.all_nil, List.all_cons, List.any_nil, List.any_cons, List.map_nil, List.map_cons, PV.Le_self, l1, l2]
      exact hu
    · have hu := fun i hi => upd_same (wr := wr) (v := v) (lf := lf) (i := i) hi h1
      
      simp only [st_imU2, ek]
      generalize updL x wr v lf A k = X at *
      generalize updL x wr v lf A (k + 1) = Y at *
      generalize A.getD k b0 = bb at *
      simp [hbs, St.lowers, St.lower, stLe, leEnv, leObs, obLe, injB, pinC, AV.leC, AV.leCs, PV.leC, PV.Le_v, St.get, St.obj, look, rho, isNew, keptC, renH, Mode.ok, Mode.isZ, PV.isVal, PV.isNilSl, List.all_nil, List.all_cons, List.any_nil, List.any_cons, List.map_nil, List.map_cons, PV.Le_self, l1, l2]
      simp only [List.getD_eq_getElem?_getD] at hu
      exact fun i c hi _ => by rw [hu i hi]
  · have hkA : k = A.length := by omega
    subst hkA
    have e0 : IntKind.i64.wrap (((3 : Nat) : Int) - 1) = 2 := wrap_in (by omega) (by omega)
    refine st6_im x wr v lf l o T (A.map (upB x wr v lf)) hl hT (by simpa using hA) (fun b hb => ?_) hF R hR _ ?_
    · obtain ⟨c, hc, rfl⟩ := List.mem_map.1 hb
      unfold upB
      split
      · exact hlf
      · exact hv c hc
    · simp only [st_imU6, F3, updL_all, e0]
      have lm : (A.map (upB x wr v lf)).length = A.length := List.length_map ..
      generalize A.map (upB x wr v lf) = Y at *
      simp [hbs, St.lowers, St.lower, stLe, leEnv, leObs, obLe, injB, pinC, AV.leC, AV.leCs, PV.leC, PV.Le_v, St.get, St.obj, look, rho, isNew, keptC, renH, Mode.ok, Mode.isZ, PV.isVal, PV.isNilSl, List.all_nil, List.all_cons, List.any_nil, List.any_cons, List.map_nil, List.map_cons, PV.Le_self, lm]
theorem st1_im (x : Int) (wr : Bool) (v lf l : Int) (o : Blk) (T : List (List Blk)) (S : List Blk) (A : List Blk) (T' : List (List Blk)) (hAe : A = S1 T S l 3) (hTe : T' = T1 T l 3) (hl : 0 ≤ l ∧ l ≤ 3) (hlf : 0 ≤ lf ∧ lf ≤ 3) (hT : T.length = 7) (hS : S.length ≤ 100) (hb : ∀ i, (T.getD i []).length ≤ 2) (hv : ∀ b, b ∈ A → 0 ≤ b.l ∧ b.l ≤ 3) (hF : (F3 l T' (A.map (upB x wr v lf)) 3).2.length + (F3 l T' (A.map (upB x wr v lf)) 3).1.flatten.length ≤ 1048576) (R : AV → List (Nat × Ob) → Prop)
    (hR : R (.tp [.ag [.own 0, .own 1], AI o.v, .own 2, AB true]) (useH3 (F3 l T' (A.map (upB x wr v lf)) 3).1 (F3 l T' (A.map (upB x wr v lf)) 3).2 l)) (s : St) (hs : stLe (s.lowers []) (st_imU1 x wr v lf l o T S 0) [] []) :
    (VC.loop ir68_L1 [Item.bend 0, Item.ir ir68_T9] s).holds Tryd.prog G0 res68 [] R := by
  refine loop_by (st_imU1 x wr v lf l o T S) (fun k => k ≤ 3) (fun k => 3 - k) 0 [] [] [] (by omega) hs (evr_imU1 x wr v lf l o T S) fun k hk => ?_
  have ek : IntKind.i64.wrap ((k : Int) + 1) = ((k + 1 : Nat) : Int) := wrap_in (by omega) (by omega)
  have hT1 := T1_len T l k
  have hS1 := S1_len T S hl hT hb hk
  simp only [VC.holds_split, VC.holds_need, VC.holds_doneP, VC.holds_done, VC.holds_either, VC.holds_call, VC.holds_callE, VC.holds_lend, VC.holds_stop, VC.holds_fail, decide_eq_true_eq, decide_eq_false_iff_not, Int.toNat_natCast]
  refine ⟨fun h0 => ?_, fun h0 => ?_⟩
  · have hk3 : k < 3 := by omega
    obtain ⟨p1, p2⟩ := pth_int hl hk3
    simp only [p1, Int.toNat_natCast]
    have hg : ((T1 T l k).getD (pth l k) []).length ≤ 2 := by
      rcases T1_or T hl hT (pth l k) hk with e | e
      · rw [e]; exact hb _
      · rw [e]; simp
    have eT : T1 T l (k + 1) = (T1 T l k).set (pth l k) [] := rfl
    have eS : S1 T S l (k + 1) = S1 T S l k ++ (T1 T l k).getD (pth l k) [] := rfl
    have hz : ∀ X : PV, PV.Le X (.sl false 3 0 (SB [])) → ∀ c0 a, PV.Le (setG [(pth l k, 0, X)] (cellSet (BB (T1 T l k)) (pth l k) 0 c0) a 0) (BB (T1 T l (k + 1)) a 0) := fun X hX c0 a => by
      rw [eT]
      by_cases c : a = pth l k
      · simp only [setG, cellSet, c, and_self, if_true, BB]
        rw [getD_setL (by omega), if_pos rfl]
        exact hX
      · simp only [setG, cellSet, c, and_false, if_false]
        exact BB_le (by rw [getD_setL (by omega), if_neg c])
    have lT : (T1 T l (k + 1)).length = (T1 T l k).length := by rw [T1_len, T1_len]
    refine ⟨⟨by omega, by omega⟩, by omega, ⟨by omega, by omega⟩, by omega, ⟨⟨by omega, by omega⟩, allV_SB⟩, ⟨by omega, by omega⟩, by omega, Again.mk (k + 1) [] [(2045, 65)] [] (by omega) (by omega) ?_⟩
    simp only [st_imU1, eS]
    generalize hG : (T1 T l k).getD (pth l k) [] = G at *
    generalize S1 T S l k = X at *
    generalize T1 T l k = Y at *
    generalize T1 T l (k + 1) = Z at *
    simp [hbs, St.lowers, St.lower, stLe, leEnv, leObs, obLe, injB, pinC, AV.leC, AV.leCs, PV.leC, PV.Le_v, St.get, St.obj, look, rho, isNew, keptC, renH, Mode.ok, Mode.isZ, PV.isVal, PV.isNilSl, List.all_nil, List.all_cons, List.any_nil, List.any_cons, List.map_nil, List.map_cons, PV.Le_self, ek, lT]
    exact ⟨fun a ha => hz _ (PV.Le.nil _ _) _ a, fun a c ha hc => SB_app⟩
  · have hk3 : k = 3 := by omega
    subst hk3
    refine st2_im x wr v lf l o T' A hl hlf (by rw [hTe, T1_len]; exact hT) (by rw [hAe]; omega) hv hF R hR _ ?_
    have e2 : updL x wr v lf A 0 = A := by simp [updL]
    simp only [st_imU2, e2, ← hAe, ← hTe]
    simp [hbs, St.lowers, St.lower, stLe, leEnv, leObs, obLe, injB, pinC, AV.leC, AV.leCs, PV.leC, PV.Le_v, St.get, St.obj, look, rho, isNew, keptC, renH, Mode.ok, Mode.isZ, PV.isVal, PV.isNilSl, List.all_nil, List.all_cons, List.any_nil, List.any_cons, List.map_nil, List.map_cons, PV.Le_self]
theorem st2_sp (x : Int) (wr : Bool) (v lf l : Int) (T : List (List Blk)) (A : List Blk) (hl : 0 ≤ l ∧ l ≤ 3) (hlf : 0 ≤ lf ∧ lf ≤ 3) (hT : T.length = 7) (hA : A.length ≤ 1000) (hv : ∀ b, b ∈ A → 0 ≤ b.l ∧ b.l ≤ 3) (R : AV → List (Nat × Ob) → Prop)
    (hR : R (.tp [.ag [.own 0, .own 1], AI (hadK x A A.length), .own 2, AB true]) (useH3 (F3 l T (A.map (upB x wr v lf)) 3).1 (F3 l T (A.map (upB x wr v lf)) 3).2 l)) (s : St) (hs : stLe (s.lowers []) (st_spU2 x wr v lf l T A 0) [] []) :
    (VC.loop ir181_L2 [Item.bend 2, Item.ir ir181_T8] s).holds Tryd.prog G0 res181 [] R := by
  refine loop_by (st_spU2 x wr v lf l T A) (fun k => k ≤ A.length) (fun k => A.length - k) 0 [] [] [] (by omega) hs (evr_spU2 x wr v lf l T A) fun k hk => ?_
  have ek : IntKind.i64.wrap ((k : Int) + 1) = ((k + 1 : Nat) : Int) := wrap_in (by omega) (by omega)
  simp only [VC.holds_split, VC.holds_need, VC.holds_doneP, VC.holds_done, VC.holds_either, VC.holds_call, VC.holds_callE, VC.holds_lend, VC.holds_stop, VC.holds_fail, decide_eq_true_eq, decide_eq_false_iff_not, Int.toNat_natCast, updL_len, Nat.zero_add, Nat.add_zero, col0, col1, col2]
  refine ⟨fun h0 => ?_, fun h0 => ?_⟩
  · have hkA : k < A.length := by omega
    have gk := updL_get x wr v lf (A := A) (k := k) hkA
    rw [if_neg (by omega)] at gk
    simp only [gk]
    have l1 := updL_len x wr v lf A k
    have l2 := updL_len x wr v lf A (k + 1)
    have hh : hadK x A (k + 1) = if (A.getD k b0).a = x then (A.getD k b0).v else hadK x A k := rfl
    refine ⟨⟨by omega, by omega⟩, by omega, fun h1 => ⟨⟨by omega, by omega⟩, by omega, ⟨by omega, by omega⟩, by omega, fun h2 => ⟨⟨by omega, by omega⟩, by omega, Again.mk (k + 1) [] [] [] (by omega) (by omega) ?_⟩, fun h2 => Again.mk (k + 1) [] [] [] (by omega) (by omega) ?_⟩, fun h1 => Again.mk (k + 1) [] [] [] (by omega) (by omega) ?_⟩
    · subst h2
      have hu := fun i c hi hc => upd_step (wr := true) (v := v) (lf := lf) (i := i) (c := c) hkA hi hc h1
      simp only [if_true] at hu
      have ha : (A.getD k b0).a = x := by simpa using h1
      simp only [st_spU2, ek, hh, if_pos ha]
      generalize updL x true v lf A k = X at *
      generalize updL x true v lf A (k + 1) = Y at *
      generalize A.getD k b0 = bb at *
      simp [hbs, St.lowers, St.lower, stLe, leEnv, leObs, obLe, injB, pinC, AV.leC, AV.leCs, PV.leC, PV.Le_v, St.get, St.obj, look, rho, isNew, keptC, renH, Mode.ok, Mode.isZ, PV.isVal, PV.isNilSl, List.all_nil, List.all_cons, List.any_nil, List.any_cons, List.map_nil, List.map_cons, PV.Le_self, l1, l2]
      exact hu
    · have h2' : wr = false := by simpa using h2
      subst h2'
      have hu := fun i c hi hc => upd_step (wr := false) (v := v) (lf := lf) (i := i) (c := c) hkA hi hc h1
      simp only [if_false, Bool.false_eq_true] at hu
      have ha : (A.getD k b0).a = x := by simpa using h1
      simp only [st_spU2, ek, hh, if_pos ha]
      generalize updL x false v lf A k = X at *
      generalize updL x false v lf A (k + 1) = Y at *
      generalize A.getD k b0 = bb at *
      simp [hbs, St.lowers, St.lower, stLe, leEnv, leObs, obLe, injB, pinC, AV.leC, AV.leCs, PV.leC, PV.Le_v, St.get, St.obj, look, rho, isNew, keptC, renH, Mode.ok, Mode.isZ, PV.isVal, PV.isNilSl, List.all_nil, List.all_cons, List.any_nil, List.any_cons, List.map_nil, List.map_cons, PV.Le_self, l1, l2]
      exact hu
    · have hu := fun i hi => upd_same (wr := wr) (v := v) (lf := lf) (i := i) hi h1
      have ha : ¬ (A.getD k b0).a = x := by simpa using h1
      simp only [st_spU2, ek, hh, if_neg ha]
      generalize updL x wr v lf A k = X at *
      generalize updL x wr v lf A (k + 1) = Y at *
      generalize A.getD k b0 = bb at *
      simp [hbs, St.lowers, St.lower, stLe, leEnv, leObs, obLe, injB, pinC, AV.leC, AV.leCs, PV.leC, PV.Le_v, St.get, St.obj, look, rho, isNew, keptC, renH, Mode.ok, Mode.isZ, PV.isVal, PV.isNilSl, List.all_nil, List.all_cons, List.any_nil, List.any_cons, List.map_nil, List.map_cons, PV.Le_self, l1, l2]
      simp only [List.getD_eq_getElem?_getD] at hu
      exact fun i c hi _ => by rw [hu i hi]
  · have hkA : k = A.length := by omega
    subst hkA
    have e0 : IntKind.i64.wrap (((3 : Nat) : Int) - 1) = 2 := wrap_in (by omega) (by omega)
    refine st6_sp x wr v lf l (hadK x A A.length) T (A.map (upB x wr v lf)) hl hT (by simpa using hA) (fun b hb => ?_) R hR _ ?_
    · obtain ⟨c, hc, rfl⟩ := List.mem_map.1 hb
      unfold upB
      split
      · exact hlf
      · exact hv c hc
    · simp only [st_spU6, F3, updL_all, e0]
      have lm : (A.map (upB x wr v lf)).length = A.length := List.length_map ..
      generalize A.map (upB x wr v lf) = Y at *
      simp [hbs, St.lowers, St.lower, stLe, leEnv, leObs, obLe, injB, pinC, AV.leC, AV.leCs, PV.leC, PV.Le_v, St.get, St.obj, look, rho, isNew, keptC, renH, Mode.ok, Mode.isZ, PV.isVal, PV.isNilSl, List.all_nil, List.all_cons, List.any_nil, List.any_cons, List.map_nil, List.map_cons, PV.Le_self, lm]
theorem st1_sp (x : Int) (wr : Bool) (v lf l : Int) (T : List (List Blk)) (S : List Blk) (A : List Blk) (T' : List (List Blk)) (hAe : A = S1 T S l 3) (hTe : T' = T1 T l 3) (hl : 0 ≤ l ∧ l ≤ 3) (hlf : 0 ≤ lf ∧ lf ≤ 3) (hT : T.length = 7) (hS : S.length ≤ 100) (hb : ∀ i, (T.getD i []).length ≤ 2) (hv : ∀ b, b ∈ A → 0 ≤ b.l ∧ b.l ≤ 3) (R : AV → List (Nat × Ob) → Prop)
    (hR : R (.tp [.ag [.own 0, .own 1], AI (hadK x A A.length), .own 2, AB true]) (useH3 (F3 l T' (A.map (upB x wr v lf)) 3).1 (F3 l T' (A.map (upB x wr v lf)) 3).2 l)) (s : St) (hs : stLe (s.lowers []) (st_spU1 x wr v lf l T S 0) [] []) :
    (VC.loop ir181_L1 [Item.bend 0, Item.ir ir181_T9] s).holds Tryd.prog G0 res181 [] R := by
  refine loop_by (st_spU1 x wr v lf l T S) (fun k => k ≤ 3) (fun k => 3 - k) 0 [] [] [] (by omega) hs (evr_spU1 x wr v lf l T S) fun k hk => ?_
  have ek : IntKind.i64.wrap ((k : Int) + 1) = ((k + 1 : Nat) : Int) := wrap_in (by omega) (by omega)
  have hT1 := T1_len T l k
  have hS1 := S1_len T S hl hT hb hk
  simp only [VC.holds_split, VC.holds_need, VC.holds_doneP, VC.holds_done, VC.holds_either, VC.holds_call, VC.holds_callE, VC.holds_lend, VC.holds_stop, VC.holds_fail, decide_eq_true_eq, decide_eq_false_iff_not, Int.toNat_natCast]
  refine ⟨fun h0 => ?_, fun h0 => ?_⟩
  · have hk3 : k < 3 := by omega
    obtain ⟨p1, p2⟩ := pth_int hl hk3
    simp only [p1, Int.toNat_natCast]
    have hg : ((T1 T l k).getD (pth l k) []).length ≤ 2 := by
      rcases T1_or T hl hT (pth l k) hk with e | e
      · rw [e]; exact hb _
      · rw [e]; simp
    have eT : T1 T l (k + 1) = (T1 T l k).set (pth l k) [] := rfl
    have eS : S1 T S l (k + 1) = S1 T S l k ++ (T1 T l k).getD (pth l k) [] := rfl
    have hz : ∀ X : PV, PV.Le X (.sl false 3 0 (SB [])) → ∀ c0 a, PV.Le (setG [(pth l k, 0, X)] (cellSet (BB (T1 T l k)) (pth l k) 0 c0) a 0) (BB (T1 T l (k + 1)) a 0) := fun X hX c0 a => by
      rw [eT]
      by_cases c : a = pth l k
      · simp only [setG, cellSet, c, and_self, if_true, BB]
        rw [getD_setL (by omega), if_pos rfl]
        exact hX
      · simp only [setG, cellSet, c, and_false, if_false]
        exact BB_le (by rw [getD_setL (by omega), if_neg c])
    have lT : (T1 T l (k + 1)).length = (T1 T l k).length := by rw [T1_len, T1_len]
    refine ⟨⟨by omega, by omega⟩, by omega, ⟨by omega, by omega⟩, by omega, ⟨⟨by omega, by omega⟩, allV_SB⟩, ⟨by omega, by omega⟩, by omega, ⟨by omega, by omega⟩, by omega, Again.mk (k + 1) [] [(2043, 60)] [] (by omega) (by omega) ?_⟩
    simp only [st_spU1, eS]
    generalize hG : (T1 T l k).getD (pth l k) [] = G at *
    generalize S1 T S l k = X at *
    generalize T1 T l k = Y at *
    generalize T1 T l (k + 1) = Z at *
    simp [hbs, St.lowers, St.lower, stLe, leEnv, leObs, obLe, injB, pinC, AV.leC, AV.leCs, PV.leC, PV.Le_v, St.get, St.obj, look, rho, isNew, keptC, renH, Mode.ok, Mode.isZ, PV.isVal, PV.isNilSl, List.all_nil, List.all_cons, List.any_nil, List.any_cons, List.map_nil, List.map_cons, PV.Le_self, ek, lT]
    exact ⟨fun a ha => hz _ (.sl _ _ (fun e => (by cases e)) 3 _ _ _ _ rfl fun i j hi => absurd hi (Nat.not_lt_zero _)) _ a, fun a c ha hc => SB_app⟩
  · have hk3 : k = 3 := by omega
    subst hk3
    refine st2_sp x wr v lf l T' A hl hlf (by rw [hTe, T1_len]; exact hT) (by rw [hAe]; omega) hv R hR _ ?_
    have e2 : updL x wr v lf A 0 = A := by simp [updL]
    simp only [st_spU2, e2, ← hAe, ← hTe, hadK]
    simp [hbs, St.lowers, St.lower, stLe, leEnv, leObs, obLe, injB, pinC, AV.leC, AV.leCs, PV.leC, PV.Le_v, St.get, St.obj, look, rho, isNew, keptC, renH, Mode.ok, Mode.isZ, PV.isVal, PV.isNilSl, List.all_nil, List.all_cons, List.any_nil, List.any_cons, List.map_nil, List.map_cons, PV.Le_self]
end Go.Gw
