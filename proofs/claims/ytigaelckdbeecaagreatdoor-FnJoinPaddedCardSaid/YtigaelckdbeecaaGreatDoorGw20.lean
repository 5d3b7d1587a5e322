/- A region that draws its order: one walk in the order of the text serves every order; with no condition. -/
import Derived.Test.YtigaelckdbeecaaGreatDoorGw18
namespace Go.Gw
open Go
set_option linter.unusedVariables false
set_option linter.unusedSimpArgs false
set_option linter.unnecessarySimpa false
theorem idss_append : ∀ (a b : List AV), AV.idss (a ++ b) = AV.idss a ++ AV.idss b
  | [], b => rfl
  | c :: a, b => by simp [AV.idss, idss_append a b]
theorem idss_map_p {fr : Bool} : ∀ (l : List PV), AV.idss (l.map (AV.p fr)) = []
  | [] => rfl
  | c :: l => by simp [AV.idss, AV.ids, idss_map_p l]
def tmpOf : Operand → Option Nat
  | .tmp t => some t
  | _ => none
def IOp.reads (op : IOp) : List Nat := op.opds.filterMap tmpOf
def IOp.isR : IOp → Bool
  | .mov _ => false
  | .pick _ _ _ => false
  | .bin _ _ _ => false
  | .binB _ _ _ => false
  | .un _ _ => false
  | .alloc _ => false
  | .fadr _ _ => false
  | .fval _ _ _ _ => false
  | .idxS _ _ => false
  | .ext _ _ => false
  | .mkFn _ _ _ => false
  | .mkSlc _ _ _ _ _ => false
  | .slcS _ _ _ => false
  | .lenS _ => false
  | .conv _ _ => false
  | .nilck _ => false
  | .mm _ _ _ => false
  | .mkM => false
  | .eqA _ _ _ _ => false
  | .bad _ => false
  | _ => true
def reach (ob : Nat → Option Ob) : Nat → List AV → List Nat
  | 0, vs => AV.idss vs
  | n + 1, vs => AV.idss vs ++ (AV.idss vs).flatMap fun i => match ob i with
    | some (.box cs) => reach ob n cs
    | _ => []
def IOp.rd (G : List (Nat × PV)) (s : St) (op : IOp) : List Nat := match op.isR with
  | false => []
  | true => match op with
    | .call _ args => reach s.obj 4 (args.map (opd G s))
    | .callv x args => reach s.obj 4 ((x :: args).map (opd G s))
    | op => AV.idss (op.opds.map (opd G s))
theorem opd_congr {G : List (Nat × PV)} {s s' : St} {op : IOp} (hr : ∀ t, t ∈ op.reads → s'.get t = s.get t) : ∀ x, x ∈ op.opds → opd G s' x = opd G s x := by
  intro x hx
  cases x with
  | tmp t => exact hr t (by simp only [IOp.reads, List.mem_filterMap]; exact ⟨_, hx, rfl⟩)
  | _ => rfl
theorem map_opd_congr {G : List (Nat × PV)} {s s' : St} {l : List Operand} (h : ∀ x, x ∈ l → opd G s' x = opd G s x) : l.map (opd G s') = l.map (opd G s) :=
  List.map_congr_left h
theorem mem_idss {cs : List AV} {c : AV} {i : Nat} (hc : c ∈ cs) (hi : i ∈ c.ids) : i ∈ AV.idss cs := by
  obtain ⟨j, hj⟩ := List.mem_iff_getElem?.1 hc
  exact idss_mem hj hi
theorem cells_ids {c : AV} {e : AV} {i : Nat} (he : e ∈ c.cells) (hi : i ∈ e.ids) : i ∈ c.ids := by
  have hone : c.cells = [c] → i ∈ c.ids := by
    intro h
    rw [h] at he
    have := List.mem_singleton.1 he
    subst this
    exact hi
  cases c <;> first
    | exact hone rfl
    | (simp only [AV.cells, AV.ids] at *; exact mem_idss he hi)
section
variable {ob ob' : Nat → Option Ob}
theorem one_congr {c : AV} (h : ∀ i, i ∈ c.ids → ob' i = ob i) : c.one ob' = c.one ob := by
  cases c <;> simp only [AV.one]
  case own i => rw [h i (by simp [AV.ids])]
theorem all_one_congr {c : AV} (h : ∀ i, i ∈ c.ids → ob' i = ob i) : (c.cells.all fun e => e.one ob') = (c.cells.all fun e => e.one ob) := by
  have : ∀ (l : List AV), (∀ e, e ∈ l → e.one ob' = e.one ob) → (l.all fun e => e.one ob') = (l.all fun e => e.one ob) := by
    intro l
    induction l with
    | nil => intro _; rfl
    | cons x l ih => intro h; simp only [List.all_cons, h x List.mem_cons_self, ih fun e he => h e (List.mem_cons_of_mem _ he)]
  exact this _ fun e he => one_congr fun i hi => h i (cells_ids he hi)
theorem pc_congr {c : AV} (h : ∀ i, i ∈ c.ids → ob' i = ob i) : c.pc ob' = c.pc ob := by
  cases c <;> simp only [AV.pc]
  case own i => rw [h i (by simp [AV.ids])]
theorem pcl_congr : ∀ {l : List (Nat × Nat × AV)}, (∀ x, x ∈ l → ∀ i, i ∈ x.2.2.ids → ob' i = ob i) → pcl ob' l = pcl ob l
  | [], _ => rfl
  | (k, j, c) :: r, h => by
    simp only [pcl]
    rw [pc_congr (h (k, j, c) List.mem_cons_self), pcl_congr fun x hx => h x (List.mem_cons_of_mem _ hx)]
theorem posn_in {k : Nat} : ∀ {cs : List AV} {off : Nat} {x : Nat × Nat × AV}, x ∈ posn k off cs → x.2.2 ∈ cs
  | [], _, _, h => by simp [posn] at h
  | c :: cs, off, x, h => by
    simp only [posn, List.mem_cons] at h
    rcases h with rfl | h
    · exact List.mem_cons_self
    · exact List.mem_cons_of_mem _ (posn_in h)
theorem srcOf_congr {esz : Nat} {scal : Bool} {c : AV} (h : ∀ i, i ∈ c.ids → ob' i = ob i) : srcOf ob' esz scal c = srcOf ob esz scal c := by
  cases c with
  | own i => simp only [srcOf]; rw [h i (by simp [AV.ids])]
  | p fr c =>
    cases c with
    | v x =>
      cases x with
      | slice a n m => cases a <;> (try rfl); cases n <;> (try rfl); cases m <;> rfl
      | _ => rfl
    | _ => rfl
  | _ => rfl
theorem all_congr {α : Type} {l : List α} {f g : α → Bool} (h : ∀ x, x ∈ l → f x = g x) : l.all f = l.all g := by
  induction l with
  | nil => rfl
  | cons x l ih => simp only [List.all_cons, h x List.mem_cons_self, ih fun y hy => h y (List.mem_cons_of_mem _ hy)]
theorem res_congr {d : Nat} {vs : List AV} {op : IOp} (h : op.isR = true → ∀ i, i ∈ AV.idss vs → ob' i = ob i) : res ob' d vs op = res ob d vs op := by
  cases op <;> simp only [IOp.isR, Bool.false_eq_true, false_implies, true_implies] at h <;> simp only [res]
  case box n x =>
    split
    · rename_i x
      rw [all_one_congr (ob := ob) (ob' := ob') fun i hi => h i (by simp [AV.idss, hi])]
    · rfl
  case build z ps =>
    rw [all_congr (f := fun v => v.cells.all fun c => c.one ob') (g := fun v => v.cells.all fun c => c.one ob) fun v hv => all_one_congr fun i hi => h i (mem_idss hv hi)]
  case mkSl esz len z ps =>
    rw [pcl_congr (ob := ob) (ob' := ob') fun x hx i hi => ?_]
    simp only [List.mem_flatMap] at hx
    obtain ⟨y, hy, hx⟩ := hx
    exact h i (mem_idss (List.of_mem_zip hy).2 (cells_ids (posn_in hx) hi))
  case store n x y =>
    split
    · rename_i i off y
      rw [h i (by simp [AV.idss, AV.ids]), all_one_congr (ob := ob) (ob' := ob') fun i hi => h i (by simp [AV.idss, hi])]
    · rename_i i esz k off y
      rw [h i (by simp [AV.idss, AV.ids]), pcl_congr (ob := ob) (ob' := ob') fun x hx i hi => h i (by simp [AV.idss, cells_ids (posn_in hx) hi])]
    · rfl
  case app =>
    split
    · rename_i j j' s x
      rw [h j (by simp [AV.idss, AV.ids]), h j' (by simp [AV.idss, AV.ids])]
    · rename_i s x
      rw [srcOf_congr (ob := ob) (ob' := ob') fun i hi => h i (by simp [AV.idss, hi])]
      split
      · split
        · rfl
        · rename_i j; rw [h j (by simp [AV.idss, AV.ids])]
        · rfl
      · rfl
    · rfl
  case load =>
    split
    · rfl
    · rename_i i off; rw [h i (by simp [AV.idss, AV.ids])]
    · rename_i i esz k off; rw [h i (by simp [AV.idss, AV.ids])]
    · rfl
  case idx =>
    split
    · split
      · rfl
      · rename_i j; rw [h j (by simp [AV.idss, AV.ids])]
      · rfl
    · rfl
  case slc =>
    split
    · split
      · rename_i j; rw [h j (by simp [AV.idss, AV.ids])]
      · rfl
      · rfl
      · rfl
    · rfl
  all_goals first
    | rfl
    | (split <;> first
        | rfl
        | (rename_i j; rw [h j (by simp [AV.idss, AV.ids])])
        | (rename_i j _; rw [h j (by simp [AV.idss, AV.ids])])
        | (rename_i j _ _; rw [h j (by simp [AV.idss, AV.ids])])
        | (rename_i j _ _ _; rw [h j (by simp [AV.idss, AV.ids])])
        | (rename_i j _ _ _ _; rw [h j (by simp [AV.idss, AV.ids])]))
theorem reach_mono : ∀ {n n' : Nat} {vs vs' : List AV}, n ≤ n' → (∀ i, i ∈ AV.idss vs → i ∈ AV.idss vs') → ∀ i, i ∈ reach ob n vs → i ∈ reach ob n' vs'
  | 0, 0, vs, vs', _, h, i, hi => h i hi
  | 0, n' + 1, vs, vs', _, h, i, hi => by simp only [reach, List.mem_append]; exact .inl (h i hi)
  | n + 1, 0, _, _, h, _, _, _ => by omega
  | n + 1, n' + 1, vs, vs', hn, h, i, hi => by
    simp only [reach, List.mem_append, List.mem_flatMap] at hi ⊢
    rcases hi with hi | ⟨j, hj, hi⟩
    · exact .inl (h i hi)
    · refine .inr ⟨j, h j hj, ?_⟩
      split at hi
      · exact reach_mono (by omega) (fun _ h => h) i hi
      · cases hi
theorem pvws_of {ps : List Nat} {n : Nat} (h : ∀ c, (∀ i, i ∈ reach ob n [c] → ob' i = ob i) → AV.pvw ob' ps n c = AV.pvw ob ps n c) : ∀ cs : List AV, (∀ i, i ∈ reach ob n cs → ob' i = ob i) → mapO (AV.pvw ob' ps n) cs = mapO (AV.pvw ob ps n) cs
  | [], _ => rfl
  | c :: cs, hc => by
    simp only [mapO]
    rw [h c fun i hi => hc i (reach_mono (Nat.le_refl _) (fun i hi => by simp [AV.idss] at hi ⊢; exact .inl hi) i hi), pvws_of h cs fun i hi => hc i (reach_mono (Nat.le_refl _) (fun i hi => by simp [AV.idss, hi]) i hi)]
theorem reach_ids {n : Nat} {vs : List AV} {i : Nat} (h : i ∈ AV.idss vs) : i ∈ reach ob n vs := by
  cases n with
  | zero => exact h
  | succ n => simp only [reach, List.mem_append]; exact .inl h
theorem pvw_congr {ps : List Nat} : ∀ (n : Nat) (c : AV), (∀ i, i ∈ reach ob n [c] → ob' i = ob i) → AV.pvw ob' ps n c = AV.pvw ob ps n c := by
  intro n
  induction n with
  | zero =>
    intro c h
    cases c <;> simp only [AV.pvw, pvwStep]
    case own i => rw [h i (reach_ids (by simp [AV.idss, AV.ids]))]
  | succ n ih =>
    intro c h
    cases c <;> simp only [AV.pvw, pvwStep]
    case own i => rw [h i (reach_ids (by simp [AV.idss, AV.ids]))]
    case adr i o =>
      rw [h i (reach_ids (by simp [AV.idss, AV.ids]))]
      split
      · rfl
      · split
        · rename_i cs hob
          rw [pvws_of ih cs fun j hj => h j ?_]
          simp only [reach, AV.idss, AV.ids, List.append_nil, List.mem_append, List.mem_flatMap]
          exact .inr ⟨i, by simp, by simp only [hob]; exact hj⟩
        · rfl
    case cl g a b =>
      rw [pvws_of ih a fun j hj => h j (reach_mono (Nat.le_succ _) (fun i hi => by simp [AV.idss, AV.ids, hi]) j hj),
        pvws_of ih b fun j hj => h j (reach_mono (Nat.le_succ _) (fun i hi => by simp [AV.idss, AV.ids, hi]) j hj)]
mutual
theorem arg_congr {ps : List Nat} : ∀ (c : AV), (∀ i, i ∈ reach ob 4 [c] → ob' i = ob i) → AV.arg ob' ps c = AV.arg ob ps c
  | .p _ _, _ => by simp [AV.arg]
  | .own i, h => by simp only [AV.arg, pvw_congr (ps := ps) 4 (.own i) h]
  | .adr i o, h => by simp only [AV.arg, pvw_congr (ps := ps) 4 (.adr i o) h]
  | .elt i e k o, _ => by simp [AV.arg]
  | .vw i e k, _ => by simp [AV.arg]
  | .ag cs, h => by simp only [AV.arg]; rw [args_congr cs fun i hi => h i (reach_mono (Nat.le_refl _) (fun i hi => by simp [AV.idss, AV.ids, hi]) i hi)]
  | .tp cs, h => by simp only [AV.arg]; rw [args_congr cs fun i hi => h i (reach_mono (Nat.le_refl _) (fun i hi => by simp [AV.idss, AV.ids, hi]) i hi)]
  | .cl f a b, h => by
    simp only [AV.arg]
    rw [args_congr a fun i hi => h i (reach_mono (Nat.le_refl _) (fun i hi => by simp [AV.idss, AV.ids, hi]) i hi),
      args_congr b fun i hi => h i (reach_mono (Nat.le_refl _) (fun i hi => by simp [AV.idss, AV.ids, hi]) i hi)]
theorem args_congr {ps : List Nat} : ∀ (cs : List AV), (∀ i, i ∈ reach ob 4 cs → ob' i = ob i) → AV.args ob' ps cs = AV.args ob ps cs
  | [], _ => by simp [AV.args]
  | c :: cs, h => by
    simp only [AV.args]
    rw [arg_congr c fun i hi => h i (reach_mono (Nat.le_refl _) (fun i hi => by simp [AV.idss] at hi ⊢; exact .inl hi) i hi),
      args_congr cs fun i hi => h i (reach_mono (Nat.le_refl _) (fun i hi => by simp [AV.idss, hi]) i hi)]
end
theorem reach_nil {n : Nat} {vs : List AV} (h : AV.idss vs = []) : ∀ i, i ∉ reach ob n vs := by
  intro i hi
  cases n with
  | zero => simp [reach, h] at hi
  | succ n => simp [reach, h] at hi
theorem flatC_arg {ps : List Nat} : ∀ c : AV, flatC ps c = true → AV.arg ob' ps c = AV.arg ob ps c := by
  have base : ∀ c : AV, c.ids.isEmpty = true → AV.arg ob' ps c = AV.arg ob ps c := fun c h => by
    have h' : AV.idss [c] = [] := by simp [AV.idss, List.isEmpty_iff.1 h]
    exact arg_congr c fun i hi => (reach_nil h' i hi).elim
  intro c h
  cases c
  case own j =>
    simp only [flatC] at h
    simp only [AV.arg]
    cases e : idxOf ps j with
    | some k => rfl
    | none => exact absurd (by simpa using h) (idxOf_none.1 e)
  all_goals exact base _ h
theorem flatC_args {ps : List Nat} : ∀ cs : List AV, cs.all (flatC ps) = true → AV.args ob' ps cs = AV.args ob ps cs
  | [], _ => by simp [AV.args]
  | c :: cs, h => by
    simp only [List.all_cons, Bool.and_eq_true] at h
    simp only [AV.args]
    rw [flatC_arg (ob := ob) (ob' := ob') c h.1, flatC_args cs h.2]
theorem flat_arg {ps : List Nat} {o : Ob} (h : flatOb ps (some o) = true) : Ob.arg ob' ps o = Ob.arg ob ps o := by
  cases o with
  | box cs =>
    simp only [flatOb] at h
    simp only [Ob.arg]
    rw [flatC_args (ob := ob) (ob' := ob') cs h]
  | row m nn e n g hl => rfl
  | map f n => rfl
theorem flat_handed {ps : List Nat} : ∀ {l : List Nat} {k : Nat}, (∀ i, i ∈ l → ob' i = ob i ∧ flatOb ps (ob i) = true) → handed ob' ps k l = handed ob ps k l
  | [], _, _ => rfl
  | i :: l, k, h => by
    obtain ⟨h1, h2⟩ := h i List.mem_cons_self
    simp only [handed, h1]
    cases ho : ob i with
    | none => rfl
    | some o =>
      rw [ho] at h2
      simp only [flat_arg (ob := ob) (ob' := ob') h2, flat_handed (l := l) (k := k + 1) fun j hj => h j (List.mem_cons_of_mem _ hj)]
theorem near_reach {vs : List AV} {i : Nat} (h : i ∈ near ob vs) : i ∈ reach ob 4 vs :=
  reach_mono (n := 1) (by decide) (fun _ h => h) i h
theorem flat_mem {ps : List Nat} {vs : List AV} (h : flatB ob ps vs = true) : ∀ i, i ∈ ps → i ∈ reach ob 4 vs ∧ flatOb ps (ob i) = true := by
  intro i hi
  simp only [flatB, List.all_eq_true, Bool.and_eq_true] at h
  have := h i hi
  exact ⟨near_reach (by simpa using this.1), this.2⟩
theorem near_congr {vs : List AV} (h : ∀ i, i ∈ reach ob 4 vs → ob' i = ob i) : near ob' vs = near ob vs := by
  have hi : ∀ i, i ∈ AV.idss vs → ob' i = ob i := fun i hi => h i (reach_ids hi)
  simp only [near]
  congr 1
  have : ∀ l : List Nat, (∀ i, i ∈ l → ob' i = ob i) → (l.flatMap fun i => match ob' i with
      | some (.box cs) => AV.idss cs
      | _ => []) = (l.flatMap fun i => match ob i with
      | some (.box cs) => AV.idss cs
      | _ => []) := by
    intro l
    induction l with
    | nil => intro _; rfl
    | cons x l ih =>
      intro hl
      simp only [List.flatMap_cons]
      rw [hl x List.mem_cons_self, ih fun i hi => hl i (List.mem_cons_of_mem _ hi)]
  exact this _ hi
theorem any_congr' {α : Type} {l : List α} {f g : α → Bool} (h : ∀ x, x ∈ l → f x = g x) : l.any f = l.any g := by
  induction l with
  | nil => rfl
  | cons x l ih => simp only [List.any_cons, h x List.mem_cons_self, ih fun y hy => h y (List.mem_cons_of_mem _ hy)]
theorem ACall_congr {P : Program} {G : List (Nat × PV)} {d : Nat} {f : FuncId} {vs : List AV} {K : AV → Upd → Prop} (h : ∀ i, i ∈ reach ob 4 vs → ob' i = ob i) (hc : ACall P G true ob d f vs K) : ACall P G true ob' d f vs K := by
  obtain ⟨ps, cargs, H, h1, h2, h3, h4, R, h5, h6, h7⟩ := hc
  obtain ⟨hf, h8⟩ := h6 rfl
  have hm := flat_mem hf
  have ho : ∀ i, i ∈ ps → ob' i = ob i := fun i hi => h i (hm i hi).1
  refine ⟨ps, cargs, H, h1, h2, by rw [args_congr vs h]; exact h3, by rw [flat_handed (ob := ob) fun i hi => ⟨ho i hi, (hm i hi).2⟩]; exact h4, R, h5, fun _ => ⟨?_, h8⟩, fun r H' hr => ?_⟩
  · rw [← hf]
    unfold flatB
    rw [near_congr h]
    exact all_congr fun i hi => by rw [ho i hi]
  · have : lentB ob' ps vs = lentB ob ps vs := by
      unfold lentB
      congr 1
      exact any_congr' fun i hi => by rw [ho i hi]
    rw [this]
    exact h7 r H' hr
theorem ACall_det {P : Program} {G : List (Nat × PV)} {d : Nat} {f : FuncId} {vs : List AV} {K : AV → Upd → Prop} (hc : ACall P G true ob d f vs K) : ∃ c u, K c u ∧ ACall P G true ob d f vs (fun c' u' => c' = c ∧ u' = u) := by
  obtain ⟨ps, cargs, H, h1, h2, h3, h4, R, h5, h6, h7⟩ := hc
  obtain ⟨h6', r0, H0, h8, h9⟩ := h6 rfl
  refine ⟨_, _, (h7 r0 H0 h8).2, ps, cargs, H, h1, h2, h3, h4, R, h5, h6, fun r H' hr => ?_⟩
  obtain ⟨rfl, rfl⟩ := h9 r H' hr
  exact ⟨(h7 r H' hr).1, rfl, rfl⟩
theorem Cnd.det {P : Program} {G : List (Nat × PV)} {d : Nat} {K : AV → Upd → Prop} {x : Cnd} (h : x.holds P G ob d true K) : ∃ c u, K c u ∧ x.holds P G ob d true (fun c' u' => c' = c ∧ u' = u) := by
  cases x with
  | fail => exact h.elim
  | val b p c u => exact ⟨c, u, h.2.2, h.1, h.2.1, rfl, rfl⟩
  | ite b c e =>
    cases b with
    | true => exact ⟨c, [], h.1 rfl, fun _ => ⟨rfl, rfl⟩, (fun h => by cases h)⟩
    | false => exact ⟨e, [], h.2 rfl, (fun h => by cases h), fun _ => ⟨rfl, rfl⟩⟩
  | either p c e => exact absurd h.1 (by simp)
  | call f vs => exact ACall_det h
theorem Cnd.imp {P : Program} {G : List (Nat × PV)} {d : Nat} {det : Bool} {K K' : AV → Upd → Prop} (hk : ∀ c u, K c u → K' c u) {x : Cnd} (h : x.holds P G ob d det K) : x.holds P G ob d det K' := by
  cases x with
  | fail => exact h.elim
  | val b p c u => exact ⟨h.1, h.2.1, hk _ _ h.2.2⟩
  | ite b c e => exact ⟨fun e => hk _ _ (h.1 e), fun e => hk _ _ (h.2 e)⟩
  | either p c e => exact ⟨h.1, fun e => hk _ _ (h.2.1 e), hk _ _ h.2.2⟩
  | call f vs =>
    obtain ⟨ps, cargs, H, h1, h2, h3, h4, R, h5, h6, h7⟩ := h
    exact ⟨ps, cargs, H, h1, h2, h3, h4, R, h5, h6, fun r H' hr => ⟨(h7 r H' hr).1, hk _ _ (h7 r H' hr).2⟩⟩
end
structure Tr where
  c : AV
  u : Upd
  rd : List Nat
def IOpr.reads (p : IOpr) : List Nat := p.op.reads ++ (match p.g with | some (t, _) => [t] | none => [])
def IOpr.fresh (p : IOpr) : List Nat := p.op.fresh (p.d.getD 0)
theorem updO_comm (u u' : Upd) (ob : Nat → Option Ob) (i : Nat) (h : ∀ k, k ∈ u.map Prod.fst → k ∉ u'.map Prod.fst) : updO (updO ob u) u' i = updO (updO ob u') u i := by
  by_cases h1 : i ∈ u.map Prod.fst
  · have h2 := h i h1
    rw [updO_out u' _ i h2]
    exact updO_in u _ _ i h1
  · by_cases h2 : i ∈ u'.map Prod.fst
    · rw [updO_out u _ i h1]
      exact updO_in u' _ _ i h2
    · rw [updO_out u' _ i h2, updO_out u _ i h1, updO_out u _ i h1, updO_out u' _ i h2]
def Aft (p : IOpr) (r : Tr) (s s' : St) : Prop :=
  (∀ t, s'.get t = if p.d = some t then r.c else s.get t) ∧ (∀ i, s'.obj i = updO s.obj r.u i)
def Core (P : Program) (G : List (Nat × PV)) (s : St) (d : Nat) (c : AV) (u : Upd) (op : IOp) : Prop :=
  (∀ e, e ∈ op.fresh d → s.noid e) ∧ (res s.obj d (op.opds.map (opd G s)) op).holds P G s.obj d true (fun c' u' => c' = c ∧ u' = u)
inductive Eff (P : Program) (G : List (Nat × PV)) (p : IOpr) (r : Tr) (s : St) : Prop
  | skip (t : Nat) (want : Bool) (v : Value) (hg : p.g = some (t, want)) (hv : s.get t = .p true (.v v)) (hb : asB v ≠ some want) (hc : r.c = .p true (.v undef)) (hw : r.u = [])
  | run (hg : ∀ t want, p.g = some (t, want) → s.get t = .p true (.v (.bool want)))
      (hrd : ∀ i, i ∈ p.op.rd G s → i ∈ r.rd) (h : Core P G s (p.d.getD 0) r.c r.u p.op)
theorem get_putD (s : St) (d : Option Nat) (c : AV) (t : Nat) : (s.putD d c).get t = if d = some t then c else s.get t := by
  cases d with
  | none => simp [St.putD]
  | some u => simp [St.putD, St.get_put]
theorem obj_putD (s : St) (d : Option Nat) (c : AV) (i : Nat) : (s.putD d c).obj i = s.obj i := by cases d <;> rfl
theorem aft_upd (p : IOpr) (r : Tr) (s : St) : Aft p r s ((s.upd r.u).putD p.d r.c) :=
  ⟨fun t => by rw [get_putD, get_upd], fun i => by rw [obj_putD, obj_upd]⟩
theorem reach_congr {ob ob' : Nat → Option Ob} : ∀ {n : Nat} {vs : List AV}, (∀ i, i ∈ reach ob n vs → ob' i = ob i) → reach ob' n vs = reach ob n vs
  | 0, vs, _ => rfl
  | n + 1, vs, h => by
    simp only [reach]
    congr 1
    have : ∀ i, i ∈ AV.idss vs → (match ob' i with | some (.box cs) => reach ob' n cs | _ => []) = (match ob i with | some (.box cs) => reach ob n cs | _ => []) := fun i hi => by
      rw [h i (reach_ids hi)]
      split
      · rename_i cs hob
        exact reach_congr fun j hj => h j (by
          simp only [reach, List.mem_append, List.mem_flatMap]
          exact .inr ⟨i, hi, by simp only [hob]; exact hj⟩)
      · rfl
    clear h
    generalize AV.idss vs = l at this
    induction l with
    | nil => rfl
    | cons x l ih => simp only [List.flatMap_cons]; rw [this x List.mem_cons_self, ih fun i hi => this i (List.mem_cons_of_mem _ hi)]
theorem opds_congr {G : List (Nat × PV)} {s s' : St} {op : IOp} (hr : ∀ t, t ∈ op.reads → s'.get t = s.get t) : op.opds.map (opd G s') = op.opds.map (opd G s) :=
  map_opd_congr (opd_congr hr)
theorem rd_congr {G : List (Nat × PV)} {s s' : St} {op : IOp} (hr : ∀ t, t ∈ op.reads → s'.get t = s.get t) (ho : ∀ i, i ∈ op.rd G s → s'.obj i = s.obj i) : op.rd G s' = op.rd G s := by
  have h1 := opds_congr (G := G) hr
  unfold IOp.rd at ho ⊢
  split
  · rfl
  · rename_i hR
    simp only [hR] at ho
    cases op <;> simp only [IOp.opds] at h1 ho ⊢
    case call => rw [h1]; exact reach_congr ho
    case callv => rw [h1]; exact reach_congr ho
    all_goals rw [h1]
theorem Core.congr {P : Program} {G : List (Nat × PV)} {s s' : St} {d : Nat} {c : AV} {u : Upd} {op : IOp} (h : Core P G s d c u op) (hr : ∀ t, t ∈ op.reads → s'.get t = s.get t)
    (ho : ∀ i, i ∈ op.rd G s → s'.obj i = s.obj i) (hn : ∀ e, e ∈ op.fresh d → s'.noid e) : Core P G s' d c u op := by
  refine ⟨hn, ?_⟩
  have h2 := h.2
  rw [opds_congr hr]
  have hd : op.isR = true → ∀ i, i ∈ AV.idss (op.opds.map (opd G s)) → s'.obj i = s.obj i := fun hR i hi => ho i (by
    unfold IOp.rd
    rw [hR]
    cases op <;> first
      | exact reach_ids hi
      | exact hi)
  rw [res_congr (ob := s.obj) (ob' := s'.obj) hd]
  have callc : ∀ f vs, (∀ i, i ∈ reach s.obj 4 vs → s'.obj i = s.obj i) → ACall P G true s.obj d f vs (fun c' u' => c' = c ∧ u' = u) → ACall P G true s'.obj d f vs (fun c' u' => c' = c ∧ u' = u) := fun f vs h1 h2 => ACall_congr h1 h2
  cases hx : res s.obj d (op.opds.map (opd G s)) op with
  | call f vs =>
    rw [hx] at h2
    refine callc f vs (fun i hi => ho i ?_) h2
    cases op <;> simp only [res, binR, strR] at hx
    case call g args =>
      cases hx
      simpa only [IOp.rd, IOp.isR, IOp.opds] using hi
    case callv x args =>
      simp only [IOp.opds, List.map_cons] at hx
      simp only [IOp.rd, IOp.isR, List.map_cons]
      split at hx
      · rename_i f' a b args' hl
        simp only [List.cons.injEq] at hl
        cases hx
        refine reach_mono (Nat.le_refl _) (fun j hj => ?_) i hi
        simp only [idss_append, List.mem_append, AV.idss, hl.1, hl.2, AV.ids] at hj ⊢
        rcases hj with (hj | hj) | hj
        · exact .inl (.inl hj)
        · exact .inr hj
        · exact .inl (.inr hj)
      · rename_i fr f' a b args' hl
        simp only [List.cons.injEq] at hl
        cases hx
        refine reach_mono (Nat.le_refl _) (fun j hj => ?_) i hi
        simp only [idss_append, List.mem_append, AV.idss, hl.1, hl.2, AV.ids, idss_map_p, List.not_mem_nil, false_or, or_false] at hj ⊢
        exact hj
      · cases hx
    all_goals exfalso; revert hx; (repeat' split) <;> intro hx <;> cases hx
  | fail => rw [hx] at h2; exact h2
  | val b p c u => rw [hx] at h2; exact h2
  | ite b c e => rw [hx] at h2; exact h2
  | either p c e => rw [hx] at h2; exact h2
theorem Eff.loc {P : Program} {G : List (Nat × PV)} {p : IOpr} {r : Tr} {s s' : St} (h : Eff P G p r s) (hr : ∀ t, t ∈ p.reads → s'.get t = s.get t)
    (ho : ∀ i, i ∈ r.rd → s'.obj i = s.obj i) (hn : ∀ e, e ∈ p.fresh → s'.noid e) : Eff P G p r s' := by
  cases h with
  | skip t want v hg hv hb hc hwr =>
    exact .skip t want v hg (by rw [hr t (by simp [IOpr.reads, hg]), hv]) hb hc hwr
  | run hg hrd h =>
    have hr' : ∀ t, t ∈ p.op.reads → s'.get t = s.get t := fun t ht => hr t (by simp [IOpr.reads, ht])
    have ho' : ∀ i, i ∈ p.op.rd G s → s'.obj i = s.obj i := fun i hi => ho i (hrd i hi)
    exact .run (fun t want e => by rw [hr t (by simp [IOpr.reads, e]), hg t want e]) (fun i hi => hrd i (by rwa [rd_congr hr' ho'] at hi)) (h.congr hr' ho' hn)
inductive Anc (ops : Array Oper) : Nat → Nat → Prop
  | one {j : Nat} {o : Oper} {e : Edge} (ho : ops[j]? = some o) (he : e ∈ o.after) (hb : Region.binds .any e = true) : Anc ops e.on j
  | more {l j : Nat} {o : Oper} {e : Edge} (ho : ops[j]? = some o) (he : e ∈ o.after) (hb : Region.binds .any e = true) (h : Anc ops l e.on) : Anc ops l j
def Closed (ops : Array Oper) (listed : Array Bool) : Prop :=
  ∀ (j : Nat) (o : Oper), ops[j]? = some o → listed.getD j false = true → ∀ e ∈ o.after, Region.binds .any e = true → listed.getD e.on false = true
theorem anc_listed {ops : Array Oper} {listed : Array Bool} (hc : Closed ops listed) {l j : Nat} (h : Anc ops l j) : listed.getD j false = true ∨ j ∈ Region.ready .any ops listed → listed.getD l false = true := by
  induction h with
  | one ho he hb =>
    intro hj
    rcases hj with hj | hj
    · exact hc _ _ ho hj _ he hb
    · obtain ⟨_, o', ho', hall⟩ := mem_ready.1 hj
      rw [ho] at ho'
      cases ho'
      exact hall _ he hb
  | more ho he hb _ ih =>
    intro hj
    refine ih (.inl ?_)
    rcases hj with hj | hj
    · exact hc _ _ ho hj _ he hb
    · obtain ⟨_, o', ho', hall⟩ := mem_ready.1 hj
      rw [ho] at ho'
      cases ho'
      exact hall _ he hb
theorem closed_set {ops : Array Oper} {listed : Array Bool} (hc : Closed ops listed) {k : Nat} (hk : k ∈ Region.ready .any ops listed) : Closed ops (listed.setIfInBounds k true) := by
  obtain ⟨h0, o', ho', hall⟩ := mem_ready.1 hk
  have mono : ∀ i, listed.getD i false = true → (listed.setIfInBounds k true).getD i false = true := by
    intro i hi
    simp only [Array.getD_eq_getD_getElem?, Array.getElem?_setIfInBounds] at hi ⊢
    split
    · split
      · rfl
      · rename_i h1 h2; subst h1; simp [Array.getElem?_eq_none (Nat.le_of_not_lt h2)] at hi
    · exact hi
  intro j o ho hj e he hb
  by_cases hjk : j = k
  · subst hjk
    rw [ho] at ho'
    cases ho'
    exact mono _ (hall e he hb)
  · refine mono _ (hc j o ho ?_ e he hb)
    simp only [Array.getD_eq_getD_getElem?, Array.getElem?_setIfInBounds] at hj ⊢
    rwa [if_neg (fun e => hjk e.symm)] at hj
def ancOf (acc : List Nat) (o : Oper) : Nat := o.after.toList.foldl (fun s e => if Region.binds .any e then s ||| 2 ^ e.on ||| acc.getD e.on 0 else s) 0
def ancs : List Nat → List Oper → List Nat
  | acc, [] => acc
  | acc, o :: r => ancs (acc ++ [ancOf acc o]) r
theorem ancOf_spec {acc : List Nat} {o : Oper} {l : Nat} (h : (ancOf acc o).testBit l = true) : ∃ e ∈ o.after, Region.binds .any e = true ∧ (e.on = l ∨ (acc.getD e.on 0).testBit l = true) := by
  have key : ∀ (es : List Edge) (s : Nat), (es.foldl (fun s e => if Region.binds .any e then s ||| 2 ^ e.on ||| acc.getD e.on 0 else s) s).testBit l = true →
      s.testBit l = true ∨ ∃ e ∈ es, Region.binds .any e = true ∧ (e.on = l ∨ (acc.getD e.on 0).testBit l = true) := by
    intro es
    induction es with
    | nil => intro s h; exact .inl h
    | cons e es ih =>
      intro s h
      simp only [List.foldl_cons] at h
      rcases ih _ h with h1 | ⟨e', he', h2⟩
      · split at h1
        · rename_i hb
          simp only [Nat.testBit_or, Bool.or_eq_true, Nat.testBit_two_pow, decide_eq_true_eq] at h1
          rcases h1 with (h1 | h1) | h1
          · exact .inl h1
          · exact .inr ⟨e, List.mem_cons_self, hb, .inl h1⟩
          · exact .inr ⟨e, List.mem_cons_self, hb, .inr h1⟩
        · exact .inl h1
      · exact .inr ⟨e', List.mem_cons_of_mem _ he', h2⟩
  rcases key _ _ h with h | ⟨e, he, h⟩
  · simp at h
  · exact ⟨e, by simpa using he, h⟩
theorem ancs_spec {ops : Array Oper} : ∀ (r : List Oper) (acc : List Nat), (∀ j, r[j]? = ops[acc.length + j]?) → (∀ j l, (acc.getD j 0).testBit l = true → Anc ops l j) →
    ∀ j l, ((ancs acc r).getD j 0).testBit l = true → Anc ops l j
  | [], acc, _, h => h
  | o :: r, acc, hr, h => by
    refine ancs_spec r (acc ++ [ancOf acc o]) (fun j => ?_) (fun j l hj => ?_)
    · have := hr (j + 1)
      simpa [Nat.add_assoc, Nat.add_comm 1 j] using this
    · rcases Nat.lt_trichotomy j acc.length with hlt | heq | hgt
      · rw [List.getD_eq_getElem?_getD, List.getElem?_append_left hlt, ← List.getD_eq_getElem?_getD] at hj
        exact h j l hj
      · subst heq
        simp only [List.getD_eq_getElem?_getD, List.getElem?_append_right (Nat.le_refl _), Nat.sub_self, List.getElem?_cons_zero, Option.getD_some] at hj
        have h0 : ops[acc.length]? = some o := by simpa using (hr 0).symm
        obtain ⟨e, he, hb, h1 | h1⟩ := ancOf_spec hj
        · exact h1 ▸ .one h0 he hb
        · exact .more h0 he hb (h _ _ h1)
      · have : (acc ++ [ancOf acc o])[j]? = none := List.getElem?_eq_none (by simp; omega)
        simp [List.getD_eq_getElem?_getD, this] at hj
structure Comm (p q : IOpr) (r r' : Tr) : Prop where
  wr : ∀ t, p.d = some t → t ∉ q.reads
  rw' : ∀ t, q.d = some t → t ∉ p.reads
  ww : ∀ t, p.d = some t → q.d ≠ some t
  hr : ∀ k, k ∈ r.u.map Prod.fst → k ∉ r'.rd
  hr' : ∀ k, k ∈ r'.u.map Prod.fst → k ∉ r.rd
  hw : ∀ k, k ∈ r.u.map Prod.fst → k ∉ r'.u.map Prod.fst
def Apart (q : IOpr) (r : Tr) : Prop := ∀ e, e ∈ q.fresh → r.c.noid e = true ∧ ∀ x, x ∈ r.u → ∀ o, x.2 = some o → o.noid e = true
theorem updO_cases (u : List (Nat × Option Ob)) : ∀ (ob : Nat → Option Ob) (i : Nat) (o : Ob), updO ob u i = some o → ob i = some o ∨ ∃ x, x ∈ u ∧ x.2 = some o := by
  induction u with
  | nil => intro ob i o h; exact .inl h
  | cons x u ih =>
    intro ob i o h
    obtain ⟨k, o'⟩ := x
    simp only [updO] at h
    rcases ih _ i o h with h1 | ⟨x, hx, h2⟩
    · by_cases e : k = i
      · rw [if_pos e] at h1; exact .inr ⟨_, List.mem_cons_self, h1⟩
      · rw [if_neg e] at h1; exact .inl h1
    · exact .inr ⟨x, List.mem_cons_of_mem _ hx, h2⟩
theorem noid_aft {p q : IOpr} {r : Tr} {s s' : St} (ha : Aft p r s s') (hap : Apart q r) {e : Nat} (he : e ∈ q.fresh) (h : s.noid e) : s'.noid e := by
  obtain ⟨h1, h2⟩ := hap e he
  refine ⟨?_, ?_, h.2.2⟩
  · intro t
    rw [ha.1 t]
    split
    · exact h1
    · exact h.1 t
  · intro i o ho
    rw [ha.2 i] at ho
    rcases updO_cases _ _ _ _ ho with h3 | ⟨x, hx, h3⟩
    · exact h.2.1 i o h3
    · exact h2 x hx o h3
def AnyF (P : Program) (G : List (Nat × PV)) (ops : Array Oper) (il : List IOpr) (tr : List Tr) (K : St → Prop) : Nat → Array Bool → St → Prop
  | 0, listed, s => Region.ready .any ops listed = [] ∧ K s
  | fuel + 1, listed, s => (Region.ready .any ops listed = [] → K s) ∧
    ∀ j ∈ Region.ready .any ops listed, ∃ p r, il[j]? = some p ∧ tr[j]? = some r ∧ Eff P G p r s ∧ ∀ s', Aft p r s s' → AnyF P G ops il tr K fuel (listed.setIfInBounds j true) s'
theorem getD_set_ne' {listed : Array Bool} {j k : Nat} (d : Bool) (h : j ≠ k) : (listed.setIfInBounds j true).getD k d = listed.getD k d := by
  simp [Array.getD_eq_getD_getElem?, Array.getElem?_setIfInBounds, h]
section
variable {P : Program} {G : List (Nat × PV)} {ops : Array Oper} {il : List IOpr} {tr : List Tr} {K : St → Prop}
structure Pairs (ops : Array Oper) (il : List IOpr) (tr : List Tr) : Prop where
  comm : ∀ i j p q r r', i < j → il[i]? = some p → il[j]? = some q → tr[i]? = some r → tr[j]? = some r' → Anc ops i j ∨ Comm p q r r'
  apart : ∀ i j q r, i ≠ j → il[j]? = some q → tr[i]? = some r → Anc ops j i ∨ Apart q r
theorem Comm.symm {p q : IOpr} {r r' : Tr} (h : Comm p q r r') : Comm q p r' r :=
  ⟨h.rw', h.wr, fun t ht e => h.ww t e ht, h.hr', h.hr, fun k hk hk' => h.hw k hk' hk⟩
theorem anyF_first (hp : Pairs ops il tr) {k : Nat} {p : IOpr} {r : Tr} (hpk : il[k]? = some p) (hrk : tr[k]? = some r) :
    ∀ (fuel : Nat) (listed : Array Bool) (s : St), Closed ops listed → (∀ l q, il[l]? = some q → listed.getD l true = false → ∀ e ∈ q.fresh, s.noid e) →
      (∀ j, listed.getD j true = false → ¬ Anc ops j k) → k ∈ Region.ready .any ops listed → Eff P G p r s →
      (∀ s', Aft p r s s' → AnyF P G ops il tr K fuel (listed.setIfInBounds k true) s') → AnyF P G ops il tr K (fuel + 1) listed s := by
  intro fuel
  induction fuel with
  | zero =>
    intro listed s hcl hni hna hr he H
    refine ⟨fun h => (by rw [h] at hr; cases hr), fun j hj => ?_⟩
    by_cases hjk : j = k
    · subst hjk; exact ⟨p, r, hpk, hrk, he, H⟩
    · have h1 := H _ (aft_upd p r s)
      have := ready_mono hj hjk
      rw [h1.1] at this
      cases this
  | succ fuel ih =>
    intro listed s hcl hni hna hr he H
    refine ⟨fun h => (by rw [h] at hr; cases hr), fun j hj => ?_⟩
    by_cases hjk : j = k
    · subst hjk; exact ⟨p, r, hpk, hrk, he, H⟩
    · obtain ⟨hjun, _⟩ := mem_ready.1 hj
      obtain ⟨hkun, _⟩ := mem_ready.1 hr
      have hs1 := aft_upd p r s
      obtain ⟨q, r', hq, hr', hej, Hj⟩ := (H _ hs1).2 j (ready_mono hj hjk)
      have nkj : ¬ Anc ops k j := fun h => by
        have := anc_listed hcl h (.inr hj)
        rcases Nat.lt_or_ge k listed.size with h' | h'
        · simp [Array.getD_eq_getD_getElem?, h'] at hkun this; rw [hkun] at this; cases this
        · simp [Array.getD_eq_getD_getElem?, Array.getElem?_eq_none h'] at this
      have njk : ¬ Anc ops j k := hna j hjun
      have hcomm : Comm p q r r' := by
        rcases Nat.lt_or_ge k j with hlt | hge
        · exact (hp.comm k j p q r r' hlt hpk hq hrk hr').resolve_left nkj
        · exact ((hp.comm j k q p r' r (by omega) hq hpk hr' hrk).resolve_left njk).symm
      have hapj : Apart p r' := (hp.apart j k p r' hjk hpk hr').resolve_left nkj
      have hej' : Eff P G q r' s := hej.loc (fun t ht => by
          rw [hs1.1 t, if_neg (fun e => hcomm.wr t e ht)]) (fun i hi => by
          rw [hs1.2 i, updO_out _ _ _ (fun h => hcomm.hr i h hi)]) (hni j q hq hjun)
      refine ⟨q, r', hq, hr', hej', fun s2 hs2 => ?_⟩
      refine ih (listed.setIfInBounds j true) s2 (closed_set hcl hj) (fun l q' hq' hl e he' => ?_) (fun i hi => ?_) (ready_mono hr (Ne.symm hjk)) ?_ fun s3 hs3 => ?_
      · by_cases hjl : j = l
        · subst hjl; simp [Array.getD_eq_getD_getElem?, Array.getElem?_setIfInBounds] at hl; split at hl <;> simp at hl
        · rw [getD_set_ne' true hjl] at hl
          have : ¬ Anc ops l j := fun h => by
            have := anc_listed hcl h (.inr hj)
            rcases Nat.lt_or_ge l listed.size with h' | h'
            · simp [Array.getD_eq_getD_getElem?, h'] at hl this; rw [hl] at this; cases this
            · simp [Array.getD_eq_getD_getElem?, Array.getElem?_eq_none h'] at this
          exact noid_aft hs2 ((hp.apart j l q' r' hjl hq' hr').resolve_left this) he' (hni l q' hq' hl e he')
      · by_cases hji : j = i
        · subst hji; simp [Array.getD_eq_getD_getElem?, Array.getElem?_setIfInBounds] at hi; split at hi <;> simp at hi
        · rw [getD_set_ne' true hji] at hi; exact hna i hi
      · exact he.loc (fun t ht => by rw [hs2.1 t, if_neg (fun e => hcomm.rw' t e ht)]) (fun i hi => by
          rw [hs2.2 i, updO_out _ _ _ (fun h => hcomm.hr' i h hi)]) (fun e he' => noid_aft hs2 hapj he' (hni k p hpk hkun e he'))
      · rw [Array.setIfInBounds_comm _ _ hjk]
        refine Hj s3 ⟨fun t => ?_, fun i => ?_⟩
        · rw [hs3.1 t, hs2.1 t, hs1.1 t]
          by_cases h1 : p.d = some t
          · rw [if_pos h1, if_neg (hcomm.ww t h1), if_pos h1]
          · rw [if_neg h1, if_neg h1]
        · rw [hs3.2 i]
          rw [updO_congr r.u _ (updO s.obj r'.u) i (hs2.2 i)]
          rw [updO_congr r'.u _ (updO s.obj r.u) i (hs1.2 i)]
          exact updO_comm r'.u r.u _ i (fun k hk hk' => hcomm.hw k hk' hk)
inductive Txt (P : Program) (G : List (Nat × PV)) (K : St → Prop) : List IOpr → List Tr → St → Prop
  | nil (s) (h : K s) : Txt P G K [] [] s
  | cons (p : IOpr) (r : Tr) (ps : List IOpr) (rs : List Tr) (s : St) (he : Eff P G p r s) (h : ∀ s', Aft p r s s' → Txt P G K ps rs s') : Txt P G K (p :: ps) (r :: rs) s
theorem anyF_of_txt (hp : Pairs ops il tr) (hord : ∀ k o, ops[k]? = some o → ∀ e ∈ o.after, Region.binds .any e = true → e.on < k) (hlen : il.length = ops.size) (hlen' : tr.length = ops.size) :
    ∀ (ps : List IOpr) (rs : List Tr) (k : Nat) (listed : Array Bool) (s : St), Txt P G K ps rs s → (∀ j, ps[j]? = il[k + j]?) → (∀ j, rs[j]? = tr[k + j]?) → k + ps.length = ops.size → listed.size = ops.size →
      (∀ j, j < ops.size → listed.getD j true = decide (j < k)) → (∀ l q, il[l]? = some q → listed.getD l true = false → ∀ e ∈ q.fresh, s.noid e) →
      AnyF P G ops il tr K ps.length listed s := by
  have hgetD : ∀ (listed : Array Bool) (j : Nat) (d d' : Bool), listed.size = ops.size → j < ops.size → listed.getD j d = listed.getD j d' := by
    intro listed j d d' hs hj
    simp [Array.getD_eq_getD_getElem?, show j < listed.size by omega]
  intro ps rs k listed s h
  induction h generalizing k listed with
  | nil s hK =>
    intro _ _ hsz hls hl _
    refine ⟨?_, hK⟩
    cases hrd : Region.ready .any ops listed with
    | nil => rfl
    | cons j rest =>
      have hj : j ∈ Region.ready .any ops listed := by rw [hrd]; exact List.mem_cons_self
      obtain ⟨h0, o, ho, _⟩ := mem_ready.1 hj
      have hlt : j < ops.size := (Array.getElem?_eq_some_iff.1 ho).1
      simp at hsz
      rw [hl j hlt] at h0
      simp at h0
      omega
  | cons p r ps rs s he h ih =>
    intro hps hrs hsz hls hl hni
    simp only [List.length_cons] at hsz ⊢
    have hpk : il[k]? = some p := by simpa using (hps 0).symm
    have hrk : tr[k]? = some r := by simpa using (hrs 0).symm
    have hk : k < ops.size := by omega
    obtain ⟨o, ho⟩ : ∃ o, ops[k]? = some o := ⟨_, Array.getElem?_eq_getElem hk⟩
    have hcl : Closed ops listed := by
      intro j o' ho' hj e he' hb
      have hj' : j < ops.size := (Array.getElem?_eq_some_iff.1 ho').1
      rw [hgetD listed j false true hls hj', hl j hj'] at hj
      have := hord j o' ho' e he' hb
      rw [hgetD listed e.on false true hls (by omega), hl e.on (by omega)]
      simp at hj ⊢
      omega
    have hready : k ∈ Region.ready .any ops listed := by
      refine mem_ready.2 ⟨by rw [hl k hk]; simp, o, ho, fun e he' hb => ?_⟩
      have := hord k o ho e he' hb
      rw [hgetD listed e.on false true hls (by omega), hl e.on (by omega)]
      simpa using this
    have hna : ∀ j, listed.getD j true = false → ¬ Anc ops j k := by
      intro j hj hanc
      have := anc_listed hcl hanc (.inr hready)
      rcases Nat.lt_or_ge j listed.size with h' | h'
      · simp [Array.getD_eq_getD_getElem?, h'] at hj this; rw [hj] at this; cases this
      · simp [Array.getD_eq_getD_getElem?, Array.getElem?_eq_none h'] at this
    refine anyF_first hp hpk hrk ps.length listed s hcl hni hna hready he fun s' hs' => ?_
    refine ih s' hs' (k + 1) (listed.setIfInBounds k true) (fun j => ?_) (fun j => ?_) (by omega) (by simpa using hls) (fun j hj => ?_) (fun l q hq hlf e he' => ?_)
    · have := hps (j + 1); simpa [Nat.add_assoc, Nat.add_comm 1 j] using this
    · have := hrs (j + 1); simpa [Nat.add_assoc, Nat.add_comm 1 j] using this
    · by_cases hkj : k = j
      · subst hkj
        simp [Array.getD_eq_getD_getElem?, Array.getElem?_setIfInBounds, show k < listed.size by omega]
      · rw [getD_set_ne' true hkj, hl j hj]
        simp
        omega
    · by_cases hkl : k = l
      · subst hkl; simp [Array.getD_eq_getD_getElem?, Array.getElem?_setIfInBounds] at hlf; split at hlf <;> simp at hlf
      · rw [getD_set_ne' true hkl] at hlf
        have : ¬ Anc ops l k := hna l hlf
        exact noid_aft hs' ((hp.apart k l q r hkl hq hrk).resolve_left this) he' (hni l q hq hlf e he')
end
end Go.Gw
