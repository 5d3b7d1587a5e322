/- A region that draws its order: the walk in the order of the text; with no condition. -/
import Derived.Test.YtigaelckdbeecaaGreatDoorGw20
namespace Go.Gw
open Go
set_option linter.unusedVariables false
set_option linter.unusedSimpArgs false
set_option linter.unnecessarySimpa false
def before (bits : List Nat) (l k : Nat) : Bool := (bits.getD k 0).testBit l
def apartB (bits : List Nat) (allocs : List (Nat × Nat)) (k : Nat) (c : AV) (u : Upd) : Bool :=
  allocs.all fun x => x.1 == k || before bits x.1 k || (c.noid x.2 && u.all fun y => match y.2 with | some o => o.noid x.2 | none => true)
def disj (a b : List Nat) : Bool := a.all fun i => !b.contains i
def touchB (bits : List Nat) (acc : List (Nat × List Nat × List Nat)) (k : Nat) (wr rd : List Nat) : Bool :=
  acc.all fun x => before bits x.1 k || (disj x.2.1 rd && disj wr x.2.2 && disj x.2.1 wr)
def AOpsD (P : Program) (G : List (Nat × PV)) (bits : List Nat) (allocs : List (Nat × Nat)) : Nat → List IOpr → List (Nat × List Nat × List Nat) → St → (St → Prop) → Prop
  | _, [], _, s, K => K s
  | k, o :: r, acc, s, K =>
    let go : St → Prop := fun s => AOp P G true s (o.d.getD 0) (fun c u => touchB bits acc k (u.map Prod.fst) (o.op.rd G s) = true ∧ apartB bits allocs k c u = true ∧
        AOpsD P G bits allocs (k + 1) r ((k, u.map Prod.fst, o.op.rd G s) :: acc) ((s.upd u).putD o.d c) K) o.op
    let no : St → Prop := fun s => AOpsD P G bits allocs (k + 1) r ((k, [], []) :: acc) (s.putD o.d (.p true (.v undef))) K
    match o.g with
    | none => go s
    | some (t, want) => match s.get t with
      | .p true (.v (.bool b)) => (b = want → go (s.put t (.p true (.v (.bool want))))) ∧ (b = !want → no (s.put t (.p true (.v (.bool !want)))))
      | .p true (.v (.tuple _)) => no s
      | _ => False
def slotsB (p q : IOpr) : Bool :=
  match p.d, q.d with
  | some t, some u => !q.reads.contains t && !p.reads.contains u && t != u
  | some t, none => !q.reads.contains t
  | none, some u => !p.reads.contains u
  | none, none => true
def slotsAll (bits : List Nat) : Nat → List IOpr → List (Nat × IOpr) → Bool
  | _, [], _ => true
  | k, p :: r, acc => (acc.all fun x => before bits x.1 k || slotsB x.2 p) && slotsAll bits (k + 1) r ((k, p) :: acc)
def allocsOf : Nat → List IOpr → List (Nat × Nat)
  | _, [] => []
  | k, p :: r => (p.fresh.map fun e => (k, e)) ++ allocsOf (k + 1) r
def ordB : Nat → List Oper → Bool
  | _, [] => true
  | k, o :: r => (o.after.toList.all fun e => !Region.binds .any e || decide (e.on < k)) && ordB (k + 1) r
theorem allocsOf_spec : ∀ (l : List IOpr) (k j : Nat) (p : IOpr) (e : Nat), l[j]? = some p → e ∈ p.fresh → (k + j, e) ∈ allocsOf k l
  | p :: r, k, 0, q, e, h, he => by
    simp at h
    subst h
    simp [allocsOf, he]
  | p :: r, k, j + 1, q, e, h, he => by
    simp only [allocsOf, List.mem_append]
    refine .inr ?_
    have := allocsOf_spec r (k + 1) j q e (by simpa using h) he
    rwa [show k + 1 + j = k + (j + 1) by omega] at this
  | [], _, _, _, _, h, _ => by simp at h
theorem ordB_spec : ∀ (l : List Oper) (k j : Nat) (o : Oper), ordB k l = true → l[j]? = some o → ∀ e ∈ o.after, Region.binds .any e = true → e.on < k + j
  | o :: r, k, 0, q, h, hj, e, he, hb => by
    simp at hj
    subst hj
    simp only [ordB, Bool.and_eq_true, List.all_eq_true] at h
    have := h.1 e (by simpa using he)
    simpa [hb] using this
  | o :: r, k, j + 1, q, h, hj, e, he, hb => by
    simp only [ordB, Bool.and_eq_true] at h
    have := ordB_spec r (k + 1) j q h.2 (by simpa using hj) e he hb
    omega
  | [], _, _, _, _, h, _, _, _ => by simp at h
theorem slotsAll_spec {bits : List Nat} : ∀ (l : List IOpr) (k : Nat) (acc : List (Nat × IOpr)), slotsAll bits k l acc = true →
    (∀ i j p q, i < j → l[i]? = some p → l[j]? = some q → before bits (k + i) (k + j) = true ∨ slotsB p q = true) ∧
    (∀ x ∈ acc, ∀ j q, l[j]? = some q → before bits x.1 (k + j) = true ∨ slotsB x.2 q = true)
  | [], _, _, _ => ⟨fun i j p q _ h => by simp at h, fun x _ j q h => by simp at h⟩
  | p :: r, k, acc, h => by
    simp only [slotsAll, Bool.and_eq_true, List.all_eq_true, Bool.or_eq_true] at h
    obtain ⟨h1, h2⟩ := slotsAll_spec r (k + 1) _ h.2
    refine ⟨fun i j p' q hij hi hj => ?_, fun x hx j q hj => ?_⟩
    · cases j with
      | zero => omega
      | succ j =>
        cases i with
        | zero =>
          simp at hi
          subst hi
          have := h2 _ List.mem_cons_self j q (by simpa using hj)
          rwa [show k + 1 + j = k + (j + 1) by omega] at this
        | succ i =>
          have := h1 i j p' q (by omega) (by simpa using hi) (by simpa using hj)
          rwa [show k + 1 + j = k + (j + 1) by omega, show k + 1 + i = k + (i + 1) by omega] at this
    · cases j with
      | zero => simp at hj; subst hj; exact h.1 x hx
      | succ j =>
        have := h2 x (List.mem_cons_of_mem _ hx) j q (by simpa using hj)
        rwa [show k + 1 + j = k + (j + 1) by omega] at this
theorem touch_nil (bits : List Nat) (acc : List (Nat × List Nat × List Nat)) (k : Nat) : touchB bits acc k [] [] = true := by
  simp [touchB, disj]
theorem apart_undef (bits : List Nat) (allocs : List (Nat × Nat)) (k : Nat) : apartB bits allocs k (.p true (.v undef)) [] = true := by
  simp [apartB, AV.noid]
theorem noid_congr {s s' : St} (h1 : ∀ t, s'.get t = s.get t) (h2 : ∀ i, s'.obj i = s.obj i) {e : Nat} (h : s.noid e) : s'.noid e :=
  ⟨fun t => by rw [h1]; exact h.1 t, fun i o ho => h.2.1 i o (by rw [← h2]; exact ho), h.2.2⟩
theorem txt_of {P : Program} {G : List (Nat × PV)} {bits : List Nat} {allocs : List (Nat × Nat)} {K : St → Prop} :
    ∀ (l : List IOpr) (k : Nat) (acc : List (Nat × List Nat × List Nat)) (s : St), AOpsD P G bits allocs k l acc s K →
      ∃ rs : List Tr, rs.length = l.length ∧
        (∀ s', (∀ t, s'.get t = s.get t) → (∀ i, s'.obj i = s.obj i) →
          Txt P G (fun s' => ∃ s0, K s0 ∧ (∀ t, s'.get t = s0.get t) ∧ (∀ i, s'.obj i = s0.obj i)) l rs s') ∧
        (∀ j r, rs[j]? = some r → touchB bits acc (k + j) (r.u.map Prod.fst) r.rd = true ∧ apartB bits allocs (k + j) r.c r.u = true) ∧
        (∀ i j r r', i < j → rs[i]? = some r → rs[j]? = some r' → before bits (k + i) (k + j) = true ∨
          (disj (r.u.map Prod.fst) r'.rd && disj (r'.u.map Prod.fst) r.rd && disj (r.u.map Prod.fst) (r'.u.map Prod.fst)) = true)
  | [], k, acc, s, h => ⟨[], rfl, fun s' h1 h2 => .nil s' ⟨s, h, h1, h2⟩, fun j r h => by simp at h, fun i j r r' _ h => by simp at h⟩
  | o :: l, k, acc, s, h => by
    have step : ∀ (r : Tr) (s1 : St), (∀ t, s1.get t = if o.d = some t then r.c else s.get t) → (∀ i, s1.obj i = updO s.obj r.u i) →
        (∀ s', (∀ t, s'.get t = s.get t) → (∀ i, s'.obj i = s.obj i) → Eff P G o r s') →
        touchB bits acc k (r.u.map Prod.fst) r.rd = true → apartB bits allocs k r.c r.u = true →
        AOpsD P G bits allocs (k + 1) l ((k, r.u.map Prod.fst, r.rd) :: acc) s1 K →
        ∃ rs : List Tr, rs.length = (o :: l).length ∧
        (∀ s', (∀ t, s'.get t = s.get t) → (∀ i, s'.obj i = s.obj i) →
          Txt P G (fun s' => ∃ s0, K s0 ∧ (∀ t, s'.get t = s0.get t) ∧ (∀ i, s'.obj i = s0.obj i)) (o :: l) rs s') ∧
        (∀ j r, rs[j]? = some r → touchB bits acc (k + j) (r.u.map Prod.fst) r.rd = true ∧ apartB bits allocs (k + j) r.c r.u = true) ∧
        (∀ i j r r', i < j → rs[i]? = some r → rs[j]? = some r' → before bits (k + i) (k + j) = true ∨
          (disj (r.u.map Prod.fst) r'.rd && disj (r'.u.map Prod.fst) r.rd && disj (r.u.map Prod.fst) (r'.u.map Prod.fst)) = true) := by
      intro r s1 hg ho heff ht hap hrest
      obtain ⟨rs, hlen, htxt, hall, hpair⟩ := txt_of l (k + 1) _ s1 hrest
      refine ⟨r :: rs, by simp [hlen], fun s' h1 h2 => .cons o r l rs s' (heff s' h1 h2) fun s'' ha => htxt s'' (fun t => ?_) (fun i => ?_), fun j r' hj => ?_, fun i j r1 r2 hij hi hj => ?_⟩
      · rw [ha.1 t, hg t, h1 t]
      · rw [ha.2 i, ho i]
        exact updO_congr r.u _ _ i (h2 i)
      · cases j with
        | zero => simp at hj; subst hj; exact ⟨ht, hap⟩
        | succ j =>
          obtain ⟨h3, h4⟩ := hall j r' (by simpa using hj)
          rw [show k + 1 + j = k + (j + 1) by omega] at h3 h4
          simp only [touchB, List.all_cons, Bool.and_eq_true] at h3
          exact ⟨by simpa only [touchB] using h3.2, h4⟩
      · cases j with
        | zero => omega
        | succ j =>
          cases i with
          | zero =>
            simp at hi
            subst hi
            obtain ⟨h3, _⟩ := hall j r2 (by simpa using hj)
            rw [show k + 1 + j = k + (j + 1) by omega] at h3
            simp only [touchB, List.all_cons, Bool.and_eq_true, Bool.or_eq_true] at h3
            rcases h3.1 with h3 | h3
            · exact .inl h3
            · exact .inr (by simp only [Bool.and_eq_true]; exact h3)
          | succ i =>
            have := hpair i j r1 r2 (by omega) (by simpa using hi) (by simpa using hj)
            rwa [show k + 1 + j = k + (j + 1) by omega, show k + 1 + i = k + (i + 1) by omega] at this
    have runs : ∀ (s1 : St), (∀ t, s1.get t = s.get t) → (∀ i, s1.obj i = s.obj i) → (∀ t want, o.g = some (t, want) → s1.get t = .p true (.v (.bool want))) →
        AOp P G true s1 (o.d.getD 0) (fun c u => touchB bits acc k (u.map Prod.fst) (o.op.rd G s1) = true ∧ apartB bits allocs k c u = true ∧
          AOpsD P G bits allocs (k + 1) l ((k, u.map Prod.fst, o.op.rd G s1) :: acc) ((s1.upd u).putD o.d c) K) o.op →
        ∃ rs : List Tr, rs.length = (o :: l).length ∧
        (∀ s', (∀ t, s'.get t = s.get t) → (∀ i, s'.obj i = s.obj i) →
          Txt P G (fun s' => ∃ s0, K s0 ∧ (∀ t, s'.get t = s0.get t) ∧ (∀ i, s'.obj i = s0.obj i)) (o :: l) rs s') ∧
        (∀ j r, rs[j]? = some r → touchB bits acc (k + j) (r.u.map Prod.fst) r.rd = true ∧ apartB bits allocs (k + j) r.c r.u = true) ∧
        (∀ i j r r', i < j → rs[i]? = some r → rs[j]? = some r' → before bits (k + i) (k + j) = true ∨
          (disj (r.u.map Prod.fst) r'.rd && disj (r'.u.map Prod.fst) r.rd && disj (r.u.map Prod.fst) (r'.u.map Prod.fst)) = true) := by
      intro s1 h1 h2 hg hd
      obtain ⟨c, u, ⟨ht, hap, hrest⟩, hcr⟩ := Cnd.det hd.2
      have hcore : Core P G s1 (o.d.getD 0) c u o.op := ⟨freshB_spec hd.1, hcr⟩
      refine step ⟨c, u, o.op.rd G s1⟩ _ (fun t => ?_) (fun i => ?_) (fun s' h3 h4 => ?_) ht hap hrest
      · rw [get_putD, get_upd, h1]
      · rw [obj_putD, obj_upd]
        exact updO_congr u _ _ i (h2 i)
      · have he : Eff P G o ⟨c, u, o.op.rd G s1⟩ s1 := .run hg (fun i hi => hi) hcore
        exact he.loc (fun t _ => by rw [h3, h1]) (fun i _ => by rw [h4, h2]) (fun e he' => noid_congr (fun t => by rw [h3, h1]) (fun i => by rw [h4, h2]) (hcore.1 e he'))
    simp only [AOpsD] at h
    split at h
    · rename_i hg
      exact runs s (fun _ => rfl) (fun _ => rfl) (fun t want e => by rw [hg] at e; cases e) h
    · rename_i t want hg
      split at h
      · rename_i b hb
        by_cases hbw : b = want
        · subst hbw
          have e : ∀ u, (s.put t (.p true (.v (.bool b)))).get u = s.get u := fun u => by
            rw [St.get_put]; split
            · rename_i e; subst e; exact hb.symm
            · rfl
          exact runs _ e (fun _ => rfl) (fun t' want' e' => by rw [hg] at e'; cases e'; rw [e, hb]) (h.1 rfl)
        · have hb' : b = !want := by cases b <;> cases want <;> simp_all
          subst hb'
          have e : ∀ u, (s.put t (.p true (.v (.bool !want)))).get u = s.get u := fun u => by
            rw [St.get_put]; split
            · rename_i e; subst e; exact hb.symm
            · rfl
          refine step ⟨.p true (.v undef), [], []⟩ _ (fun u => ?_) (fun i => ?_) (fun s' h3 h4 => ?_) (touch_nil _ _ _) (apart_undef _ _ _) (h.2 rfl)
          · rw [get_putD, e]
          · rw [obj_putD]; rfl
          · exact .skip t want _ hg (by rw [h3, hb]) (by cases want <;> simp [asB]) rfl rfl
      · rename_i vs hb
        refine step ⟨.p true (.v undef), [], []⟩ _ (fun u => ?_) (fun i => ?_) (fun s' h3 h4 => ?_) (touch_nil _ _ _) (apart_undef _ _ _) h
        · rw [get_putD]
        · rw [obj_putD]; rfl
        · exact .skip t want _ hg (by rw [h3, hb]) (by simp [asB]) rfl rfl
      · exact h.elim
theorem disj_spec {a b : List Nat} (h : disj a b = true) : ∀ k, k ∈ a → k ∉ b := by
  intro k hk hb
  simp only [disj, List.all_eq_true] at h
  have := h k hk
  simp [hb] at this
theorem slotsB_spec {p q : IOpr} (h : slotsB p q = true) : (∀ t, p.d = some t → t ∉ q.reads) ∧ (∀ t, q.d = some t → t ∉ p.reads) ∧ (∀ t, p.d = some t → q.d ≠ some t) := by
  unfold slotsB at h
  split at h
  · rename_i t u h1 h2
    simp only [Bool.and_eq_true, Bool.not_eq_true', bne_iff_ne, ne_eq, List.contains_eq_mem, decide_eq_false_iff_not] at h
    refine ⟨fun t' e => ?_, fun t' e => ?_, fun t' e e' => ?_⟩
    · rw [h1] at e; cases e; exact h.1.1
    · rw [h2] at e; cases e; exact h.1.2
    · rw [h1] at e; cases e; rw [h2] at e'; cases e'; exact h.2 rfl
  · rename_i t h1 h2
    simp only [Bool.not_eq_true', List.contains_eq_mem, decide_eq_false_iff_not] at h
    refine ⟨fun t' e => ?_, fun t' e => ?_, fun t' e e' => ?_⟩
    · rw [h1] at e; cases e; exact h
    · rw [h2] at e; cases e
    · rw [h2] at e'; cases e'
  · rename_i t h1 h2
    simp only [Bool.not_eq_true', List.contains_eq_mem, decide_eq_false_iff_not] at h
    refine ⟨fun t' e => ?_, fun t' e => ?_, fun t' e e' => ?_⟩
    · rw [h1] at e; cases e
    · rw [h2] at e; cases e; exact h
    · rw [h1] at e; cases e
  · rename_i h1 h2
    exact ⟨fun t' e => (by rw [h1] at e; cases e), fun t' e => (by rw [h2] at e; cases e), fun t' e => (by rw [h1] at e; cases e)⟩
theorem apartB_spec {bits : List Nat} {allocs : List (Nat × Nat)} {k : Nat} {c : AV} {u : Upd} (h : apartB bits allocs k c u = true) {l e : Nat} (hm : (l, e) ∈ allocs) (hl : l ≠ k) (hb : before bits l k = false) :
    c.noid e = true ∧ ∀ x, x ∈ u → ∀ o, x.2 = some o → o.noid e = true := by
  simp only [apartB, List.all_eq_true] at h
  have := h _ hm
  simp only [hb, Bool.or_eq_true, beq_iff_eq, Bool.false_eq_true, or_false, Bool.and_eq_true, List.all_eq_true] at this
  rcases this with h1 | ⟨h1, h2⟩
  · exact (hl h1).elim
  · refine ⟨h1, fun x hx o ho => ?_⟩
    have := h2 x hx
    rw [ho] at this
    exact this
theorem Does.eff {P : Program} {cx : Cx} {ops : Array Oper} {o : Oper} {p : IOpr} {r : Tr} (hc : compOper P cx.n ops o = some p) {s : St} (he : Eff P cx.G p r s) {ι : Nat → Value} {ow : Nat → Option Nat} {a : Act} {w : World} (hm : Models cx ι ow s a w)
    {K : Act → World → Prop} {Q : Exit → Act → World → Prop} (hK : ∀ ι' ow' s' a' w', Aft p r s s' → Models cx ι' ow' s' a' w' → K a' w') :
    if Region.wanted o (yielded ops a.tmps) then o.wp P a w K Q else K (a.put o.dst undef) w := by
  unfold compOper at hc
  split at hc
  · rename_i hd
    have hdst : ∀ t, o.dst = some t → t < cx.n := fun t ht => by rw [ht] at hd; simpa [dstOk] using hd
    have run : ∀ (p : IOpr), p.d = o.dst → p.op = compOp P o.op → Core P cx.G s (p.d.getD 0) r.c r.u p.op → (∀ ι' ow' s' a' w', Aft p r s s' → Models cx ι' ow' s' a' w' → K a' w') → o.wp P a w K Q := by
      intro p hpd hpo hcore hK
      rw [hpo] at hcore
      refine sound_comp o.op true ι ow s a w (p.d.getD 0) _ hm hcore.2 hcore.1 o rfl K Q ?_
      rintro ι' ow' c u v w' ⟨rfl, rfl⟩ hm' hrep
      refine hK ι' ow' _ _ w' (aft_upd p r s) ?_
      rw [hpd]
      exact hm'.putD hrep hdst
    split at hc
    · rename_i hg
      cases hc
      have hw : Region.wanted o (yielded ops a.tmps) = true := by simp [Region.wanted, hg]
      rw [if_pos hw]
      cases he with
      | skip t want v hg' => cases hg'
      | run _ _ hcore => exact run _ rfl rfl hcore hK
    · rename_i j want hg
      split at hc
      · rename_i t ht
        cases hc
        have henv := hm.env t
        cases he with
        | skip t' want' v hg' hv hb hcc hu =>
          cases hg'
          rw [hv] at henv
          have hy := yielded_of ht (rep_v henv)
          have hw : Region.wanted o (yielded ops a.tmps) = false := by simpa [Region.wanted, hg, hy] using hb
          rw [if_neg (by simp [hw])]
          have hs := aft_upd ⟨o.dst, some (t, want), compOp P o.op⟩ r s
          refine hK ι ow _ _ w hs ?_
          rw [hcc, hu]
          exact hm.putD (rep_mkv _) hdst
        | run hg' _ hcore =>
          have hv := hg' t want rfl
          rw [hv] at henv
          have hy := yielded_of ht (rep_v henv)
          have hw : Region.wanted o (yielded ops a.tmps) = true := by simp [Region.wanted, hg, hy, asB]
          rw [if_pos hw]
          exact run _ rfl rfl hcore hK
      · cases hc
  · cases hc
theorem wpAny_of_anyF {P : Program} {cx : Cx} {ops : Array Oper} {il : List IOpr} {tr : List Tr} {K : St → Prop} {Q : Exit → Act → World → Prop}
    (hil : ops.toList.mapM (compOper P cx.n ops) = some il) (hK : ∀ ι ow s a w, K s → Models cx ι ow s a w → Q .normal a w) :
    ∀ (fuel : Nat) (listed : Array Bool) (s : St), AnyF P cx.G ops il tr K fuel listed s → ∀ ι ow a w, Models cx ι ow s a w → wpAny P .any ops Q fuel listed a w
  | 0, listed, s, h, ι, ow, a, w, hm => ⟨h.1, hK ι ow s a w h.2 hm⟩
  | fuel + 1, listed, s, h, ι, ow, a, w, hm => by
    refine ⟨fun h0 => hK ι ow s a w (h.1 h0) hm, fun j hj => ?_⟩
    obtain ⟨p, r, hp, hr, he, hrest⟩ := h.2 j hj
    obtain ⟨_, o, ho, _⟩ := mem_ready.1 hj
    have hc : compOper P cx.n ops o = some p := by
      have key : ∀ (l : List Oper) (il : List IOpr) (j : Nat), l.mapM (compOper P cx.n ops) = some il → l[j]? = some o → il[j]? = some p → compOper P cx.n ops o = some p := by
        intro l
        induction l with
        | nil => intro il j _ h; simp at h
        | cons x l ih =>
          intro il j hm hl hp
          simp only [List.mapM_cons, Option.bind_eq_bind, Option.bind_eq_some_iff, Option.pure_def, Option.some.injEq] at hm
          obtain ⟨y, hy, il', hil', rfl⟩ := hm
          cases j with
          | zero => simp at hl hp; subst hl; subst hp; exact hy
          | succ j => exact ih il' j hil' (by simpa using hl) (by simpa using hp)
      exact key ops.toList il j hil (by simpa using ho) hp
    unfold wpOp
    simp only [ho]
    have := Does.eff hc he hm (K := wpAny P .any ops Q fuel (listed.setIfInBounds j true)) (Q := Q) fun ι' ow' s' a' w' ha hm' => wpAny_of_anyF hil hK fuel _ s' (hrest s' ha) ι' ow' a' w' hm'
    split
    · rename_i hw; rw [if_pos hw] at this; exact .inl this
    · rename_i hw; rw [if_neg hw] at this; exact this
def drawOk (ops : Array Oper) (il : List IOpr) : Bool :=
  ordB 0 ops.toList && slotsAll (ancs [] ops.toList) 0 il []
theorem wp_draw {P : Program} {cx : Cx} {ops : Array Oper} {il : List IOpr} {K : St → Prop} {Q : Exit → Act → World → Prop} {id : Nat} (hmx : P.follows .mixedOrders = true)
    (hil : ops.toList.mapM (compOper P cx.n ops) = some il) (hok : drawOk ops il = true) (hK : ∀ ι ow s a w, K s → Models cx ι ow s a w → Q .normal a w) {s : St}
    (hni : ((allocsOf 0 il).all fun x => s.noidB x.2) = true) (h : AOpsD P cx.G (ancs [] ops.toList) (allocsOf 0 il) 0 il [] s K) {ι : Nat → Value} {ow : Nat → Option Nat} {a : Act} {w : World} (hm : Models cx ι ow s a w) :
    (Code.region id ops true).wp P Q a w := by
  simp only [drawOk, Bool.and_eq_true] at hok
  obtain ⟨rs, hlen, htxt, hall, hpair⟩ := txt_of il 0 [] s h
  have hanc : ∀ l k, before (ancs [] ops.toList) l k = true → Anc ops l k := fun l k hb => ancs_spec ops.toList [] (fun j => by simp) (fun j l h => by simp at h) k l hb
  have hlil : il.length = ops.size := by
    have key : ∀ (l : List Oper) (il : List IOpr), l.mapM (compOper P cx.n ops) = some il → il.length = l.length := by
      intro l
      induction l with
      | nil => intro il h; simp at h; subst h; rfl
      | cons x l ih =>
        intro il h
        simp only [List.mapM_cons, Option.bind_eq_bind, Option.bind_eq_some_iff, Option.pure_def, Option.some.injEq] at h
        obtain ⟨y, hy, il', hil', rfl⟩ := h
        simp [ih il' hil']
    simpa using key _ _ hil
  have hpairs : Pairs ops il rs := by
    constructor
    · intro i j p q r r' hij hp hq hr hr'
      rcases hpair i j r r' hij hr hr' with hb | hd
      · exact .inl (hanc _ _ (by simpa using hb))
      · rcases (slotsAll_spec il 0 [] hok.2).1 i j p q hij hp hq with hb | hsl
        · exact .inl (hanc _ _ (by simpa using hb))
        · obtain ⟨h1, h2, h3⟩ := slotsB_spec hsl
          simp only [Bool.and_eq_true] at hd
          exact .inr ⟨h1, h2, h3, disj_spec hd.1.1, disj_spec hd.1.2, disj_spec hd.2⟩
    · intro i j q r hij hq hr
      obtain ⟨_, hap⟩ := hall i r hr
      rw [Nat.zero_add] at hap
      cases hb : before (ancs [] ops.toList) j i with
      | true => exact .inl (hanc _ _ hb)
      | false =>
        refine .inr fun e he => ?_
        have := allocsOf_spec il 0 j q e hq he
        rw [Nat.zero_add] at this
        exact apartB_spec hap this (fun e => hij e.symm) hb
  refine wp_region_any hmx (wpAny_of_anyF (tr := rs) (K := fun s' => ∃ s0, K s0 ∧ (∀ t, s'.get t = s0.get t) ∧ (∀ i, s'.obj i = s0.obj i)) hil ?_ ops.size _ s ?_ ι ow a _ (hm.grow (Grows.drew w)))
  · rintro ι ow s' a w ⟨s0, hk, h1, h2⟩ hm
    exact hK ι ow s0 a w hk (hm.same (fun t => (h1 t).symm) (fun i => (h2 i).symm))
  · have := anyF_of_txt (P := P) (G := cx.G) (K := fun s' => ∃ s0, K s0 ∧ (∀ t, s'.get t = s0.get t) ∧ (∀ i, s'.obj i = s0.obj i)) hpairs
      (fun k o ho e he hb => by simpa using ordB_spec ops.toList 0 k o hok.1 (by simpa using ho) e he hb) hlil (hlen.trans hlil) il rs 0 (Array.replicate ops.size false) s
      (htxt s (fun _ => rfl) (fun _ => rfl)) (fun j => by simp) (fun j => by simp) (by simpa using hlil) (by simp) (fun j hj => by simp [Array.getD_eq_getD_getElem?, hj])
      (fun l q hq _ e he => by
        rw [List.all_eq_true] at hni
        have := allocsOf_spec il 0 l q e hq he
        exact St.noid_of (hni _ this))
    rw [hlil] at this
    exact this
end Go.Gw
