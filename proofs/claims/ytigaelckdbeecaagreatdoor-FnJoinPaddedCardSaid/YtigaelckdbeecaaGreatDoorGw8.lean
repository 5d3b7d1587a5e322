/- Reading variables and rows; with no condition. -/
import Derived.Test.YtigaelckdbeecaaGreatDoorGw7
namespace Go.Gw
open Go
set_option linter.unusedVariables false
set_option linter.unusedSimpArgs false
theorem andP_some : ∀ (r : Prop) (l : List Prop), ∃ q, andP (r :: l) = some q
  | r, [] => ⟨r, rfl⟩
  | r, r' :: l => by
    obtain ⟨q, hq⟩ := andP_some r' l
    exact ⟨r ∧ q, by simp only [andP, hq]⟩
theorem andP_all : ∀ {l : List Prop}, opt (andP l) → ∀ p ∈ l, p
  | [], _, p, h => by cases h
  | [q], h, p, hp => by
    simp only [List.mem_singleton] at hp
    subst hp
    exact h
  | q :: r :: l, h, p, hp => by
    obtain ⟨q', hq⟩ := andP_some r l
    simp only [andP] at h
    rw [hq] at h
    have h : q ∧ q' := h
    rcases List.mem_cons.1 hp with rfl | hp
    · exact h.1
    · exact andP_all (l := r :: l) (by rw [hq]; exact h.2) p hp
theorem noids_map_p {i : Nat} {fr : Bool} : ∀ (l : List Value), AV.noids i (l.map fun v => AV.p fr (.v v)) = true
  | [] => rfl
  | v :: l => by simp [AV.noids, AV.noid, noids_map_p l]
theorem opd_noid {G : List (Nat × PV)} {s : St} {d : Nat} (h : s.noid d) (x : Operand) : (opd G s x).noid d = true := by
  cases x with
  | tmp t => exact h.1 t
  | const v =>
    simp only [opd]
    split
    · exact noids_map_p _
    · rfl
  | global g => simp only [opd]; split <;> rfl
  | func f => rfl
section
variable {P : Program} {cx : Cx} {ι : Nat → Value} {ow : Nat → Option Nat} {s : St} {a : Act} {w : World} {d : Nat}
theorem Models.extract (hm : Models cx ι ow s a w) {i e k j : Nat} {nn : Bool} {esz n : Nat} {g : Nat → Nat → PV} {hl : List (Nat × Nat × Nat)} (ho : s.obj i = some (.row .u nn esz n g hl)) (hk : k < n) (hj : j < esz)
    (hh : hole hl k j = none) {nn' : Bool} {e' n' : Nat} {g' : Nat → Nat → PV} (hg : g k j = .sl nn' e' n' g') (hid : s.noid e) (hne : e ≠ i) {b cap m : Nat} {c : Array Value} {t : TypeId}
    (hi : ι i = .slice (some ⟨b, 0, none⟩) m cap) (hb : w.heap[b]? = some (.cells c t (0, 0))) :
    ∃ ow', (∀ b, ow b = none → ow' b = none) ∧ Models cx (fun t => if t = e then c.getD (k * esz + j) undef else ι t) ow' ((s.setOb i (.row .u nn esz n g ((k, j, e) :: hl))).setOb e (.row .u nn' e' n' g' [])) a w := by
  rcases hm.obs i _ ho with ⟨h, _⟩ | ⟨b', cap', c', t', q, h4, h0, h1, h2, h3, hq, h5⟩
  · omega
  rw [hi] at h4
  simp only [Value.slice.injEq, Option.some.injEq, Addr.mk.injEq] at h4
  obtain ⟨⟨rfl, _⟩, rfl, rfl⟩ := h4
  rw [hb] at h1
  simp only [Option.some.injEq, Obj.cells.injEq] at h1
  obtain ⟨rfl, rfl, _⟩ := h1
  have hcell := h5 k j hk hj
  simp only [EltOk, hh] at hcell
  rw [hg] at hcell
  refine ⟨fun b' => if ow b' = some i ∧ q b' = some (k, j) then some e else ow b', fun b' hb' => by simp [hb'], hm.change rfl (fun x => ?_) (fun b' hl ho => ⟨by simp [ho], rfl⟩) (fun b' x hx => ?_) rfl rfl rfl (Nat.le_refl _) (Nat.le_refl _) fun x o hx => ?_⟩
  · by_cases h : x = e
    · exact .inr (h ▸ hid)
    · exact .inl (by simp [h])
  · split at hx
    · rename_i h
      cases hx
      exact ⟨by rw [St.obj_setOb, if_pos rfl]; rfl, (hm.dom b' i h.1).2⟩
    · obtain ⟨h6, h7⟩ := hm.dom b' x hx
      refine ⟨?_, h7⟩
      rw [St.obj_setOb]
      split
      · rfl
      · rw [St.obj_setOb]
        split
        · rfl
        · exact h6
  · rw [St.obj_setOb] at hx
    split at hx
    · rename_i hxe
      subst hxe
      cases hx
      refine .inr fun _ _ _ => ?_
      simp only [if_true]
      refine rowU_iff.2 (hcell.mono fun b' hb' _ => ⟨rfl, ?_⟩)
      rw [if_pos hb']
    · rename_i hxe
      rw [St.obj_setOb] at hx
      split at hx
      · rename_i hxi
        subst hxi
        cases hx
        refine .inr fun _ _ _ => ?_
        rw [if_neg (fun h => hxe h.symm)]
        refine .inr ⟨b, cap, c, t, q, hi, ?_, hb, h2, h3, hq, fun p r hp hr => ?_⟩
        · show (if ow b = some i ∧ q b = some (k, j) then some e else ow b) = some i
          rw [if_neg (fun h => by rw [hq] at h; cases h.2)]; exact h0
        · have h6 := h5 p r hp hr
          simp only [EltOk, hole] at h6 ⊢
          by_cases hpr : p = k ∧ r = j
          · rw [if_pos hpr]
            obtain ⟨rfl, rfl⟩ := hpr
            simp
          · rw [if_neg hpr]
            cases hhl : hole hl p r with
            | some d2 =>
              simp only [hhl] at h6 ⊢
              have : d2 ≠ e := fun h => by
                have := hid.2.1 i _ ho
                simp only [Ob.noid, List.all_eq_true] at this
                have := this _ (hole_mem hhl)
                simp [h] at this
              rw [if_neg this]
              exact h6
            | none =>
              simp only [hhl] at h6 ⊢
              refine h6.mono fun b' hb' _ => ⟨rfl, ?_, hb'.2⟩
              rw [if_neg (fun h => ?_)]
              · exact hb'.1
              · rw [hb'.2] at h
                have := h.2
                simp only [Option.some.injEq, Prod.mk.injEq] at this
                exact hpr this
      · rename_i hxi
        refine .inl ⟨by rw [if_neg (fun h => hxe h.symm)], hx, fun b' hb' hob => ⟨?_, rfl⟩⟩
        rw [if_neg (fun h => by rw [hob] at h; simp only [Option.some.injEq] at h; exact hxi h.1.symm)]
        exact hob
theorem hole_append_none {hs hl : List (Nat × Nat × Nat)} {k j : Nat} (h : ∀ x ∈ hs, x.2.1 ≠ j) : hole (hs ++ hl) k j = hole hl k j := by
  induction hs with
  | nil => rfl
  | cons x hs ih =>
    obtain ⟨k', j', d⟩ := x
    simp only [List.cons_append, hole]
    have : j' ≠ j := h (k', j', d) List.mem_cons_self
    rw [if_neg (fun e => this e.2.symm), ih fun x hx => h x (List.mem_cons_of_mem _ hx)]
theorem extr_ok (hm : Models cx ι ow s a w) {i k : Nat} {nn : Bool} {esz n : Nat} {g : Nat → Nat → PV} {hl : List (Nat × Nat × Nat)} (ho : s.obj i = some (.row .u nn esz n g hl)) (hk : k < n)
    {b cap m : Nat} {c : Array Value} {t : TypeId} (hi : ι i = .slice (some ⟨b, 0, none⟩) m cap) (hb : w.heap[b]? = some (.cells c t (0, 0))) (off : Nat) :
    ∀ (l i0 : Nat) (cs : List AV) (ps : List Prop) (hs : List (Nat × Nat × Nat)) (os : List (Nat × Ob)), extr g k hl d (colsFrom off i0 l) = some (cs, ps, hs, os) → (∀ p ∈ ps, p) → off + i0 + l ≤ esz →
      (∀ i', i0 ≤ i' → i' < i0 + l → s.noid (nm d i') ∧ nm d i' ≠ i) →
      ∃ ι' ow' s', Models cx ι' ow' s' a w ∧ s'.env = s.env ∧ s'.obj i = some (.row .u nn esz n g (hs ++ hl)) ∧ (∀ x, x ≠ i → s'.obj x = updO s.obj (os.map fun x => (x.1, some x.2)) x) ∧
        (∀ x, (∀ i', i0 ≤ i' → i' < i0 + l → x ≠ nm d i') → ι' x = ι x) ∧ (∀ x ∈ hs, off + i0 ≤ x.2.1 ∧ ∃ i', i0 ≤ i' ∧ x.2.2 = nm d i') ∧ (∀ x ∈ os, ∃ i', i0 ≤ i' ∧ i' < i0 + l ∧ x.1 = nm d i') ∧ (hs = [] → os = []) ∧ cs.length = l ∧
        (∀ i', i' < i0 → s.noid (nm d i') → s'.noid (nm d i') ∧ ∀ cc ∈ cs, cc.noid (nm d i') = true) ∧
        ∀ j cc, cs[j]? = some cc → RepA (zF cx ow') (zZ cx ow') ι' w cc (c.getD (k * esz + (off + (i0 + j))) undef) := by
  have hold := hm.obs i _ ho
  rcases hold with ⟨h, _⟩ | ⟨b', cap', c', t', q, h4, h0, h1, h2, h3, hq, h5⟩
  · omega
  rw [hi] at h4
  simp only [Value.slice.injEq, Option.some.injEq, Addr.mk.injEq] at h4
  obtain ⟨⟨rfl, _⟩, rfl, rfl⟩ := h4
  rw [hb] at h1
  simp only [Option.some.injEq, Obj.cells.injEq] at h1
  obtain ⟨rfl, rfl, _⟩ := h1
  intro l
  induction l with
  | zero =>
    intro i0 cs ps hs os h _ _ _
    simp only [colsFrom, extr, Option.some.injEq, Prod.mk.injEq] at h
    obtain ⟨rfl, rfl, rfl, rfl⟩ := h
    exact ⟨ι, ow, s, hm, rfl, ho, fun x _ => rfl, fun _ _ => rfl, fun x h => by simp at h, fun x h => by simp at h, fun _ => rfl, rfl, fun _ _ h => ⟨h, fun cc h => by simp at h⟩, fun j cc h => by simp at h⟩
  | succ l ih =>
    intro i0 cs ps hs os h hps hle hid
    simp only [colsFrom, extr] at h
    split at h
    · cases h
    · rename_i cs1 ps1 hs1 os1 he
      have hps1 : ∀ p ∈ ps1, p := by
        split at h
        · simp only [Option.some.injEq, Prod.mk.injEq] at h
          obtain ⟨_, rfl, _⟩ := h
          exact fun p hp => hps p (List.mem_cons_of_mem _ hp)
        · split at h
          · simp only [Option.some.injEq, Prod.mk.injEq] at h; obtain ⟨_, rfl, _⟩ := h; exact hps
          · simp only [Option.some.injEq, Prod.mk.injEq] at h; obtain ⟨_, rfl, _⟩ := h; exact hps
          · cases h
      obtain ⟨ι1, ow1, s1, m1, m2, m3, m4, m5, m6, m7, m8, m9, m10, m11⟩ := ih (i0 + 1) cs1 ps1 hs1 os1 he hps1 (by omega) (fun i' h1 h2 => hid i' (by omega) (by omega))
      have hcell := h5 k (off + i0) hk (by omega)
      have hshift : ∀ {cc0 : AV} {ι' : Nat → Value} {ow' : Nat → Option Nat}, RepA (zF cx ow') (zZ cx ow') ι' w cc0 (c.getD (k * esz + (off + i0)) undef) → (∀ j cc, cs1[j]? = some cc → RepA (zF cx ow') (zZ cx ow') ι' w cc (c.getD (k * esz + (off + (i0 + 1 + j))) undef)) →
          ∀ j cc, (cc0 :: cs1)[j]? = some cc → RepA (zF cx ow') (zZ cx ow') ι' w cc (c.getD (k * esz + (off + (i0 + j))) undef) := by
        intro cc0 ι' ow' h1 h2 j cc hj
        cases j with
        | zero => simp at hj; subst hj; exact h1
        | succ j =>
          have := h2 j cc (by simpa using hj)
          rwa [show i0 + 1 + j = i0 + (j + 1) by omega] at this
      split at h
      · rename_i k' j' e r hf
        simp only [Option.some.injEq, Prod.mk.injEq] at h
        obtain ⟨rfl, rfl, rfl, rfl⟩ := h
        have hkk : k = k' := hps _ List.mem_cons_self
        subst hkk
        have hj' : j' = off + i0 := by
          have : (k, j', e) ∈ hl.filter fun x => x.2.1 == off + i0 := by rw [hf]; exact List.mem_cons_self
          simpa using (List.mem_filter.1 this).2
        have hh : hole hl k (off + i0) = some e := by
          rw [hole_of_filter, hf, hj']; simp [hole]
        simp only [EltOk, hh] at hcell
        refine ⟨ι1, ow1, s1, m1, m2, m3, m4, fun x hx => m5 x fun i' h1 h2 => hx i' (by omega) (by omega), fun x hx => ⟨by have := (m6 x hx).1; omega, by obtain ⟨i', h1, h2⟩ := (m6 x hx).2; exact ⟨i', by omega, h2⟩⟩,
          fun x hx => by obtain ⟨i', h1, h2, h3⟩ := m7 x hx; exact ⟨i', by omega, by omega, h3⟩, m8, by simp [m9], fun i' h1 h2 => ⟨(m10 i' (by omega) h2).1, fun cc hcc => ?_⟩, hshift ?_ m11⟩
        · rcases List.mem_cons.1 hcc with rfl | hcc
          · have := h2.2.1 i _ ho
            simp only [Ob.noid, List.all_eq_true] at this
            have := this _ (hole_mem hh)
            exact this
          · exact (m10 i' (by omega) h2).2 cc hcc
        rw [hcell]
        have e1 : ι1 e = ι e := m5 e fun i' h1 h2 he => by
          have := (hid i' (by omega) (by omega)).1.2.1 i _ ho
          simp only [Ob.noid, List.all_eq_true] at this
          have := this _ (hole_mem hh)
          simp [he] at this
        rw [← e1]
        exact .own e
      · rename_i hf
        have hh : hole hl k (off + i0) = none := by rw [hole_of_filter, hf]; rfl
        split at h
        · rename_i x hx
          simp only [Option.some.injEq, Prod.mk.injEq] at h
          obtain ⟨rfl, rfl, rfl, rfl⟩ := h
          simp only [EltOk, hh] at hcell
          rw [hx] at hcell
          refine ⟨ι1, ow1, s1, m1, m2, m3, m4, fun x hx => m5 x fun i' h1 h2 => hx i' (by omega) (by omega), fun x hx => ⟨by have := (m6 x hx).1; omega, by obtain ⟨i', h1, h2⟩ := (m6 x hx).2; exact ⟨i', by omega, h2⟩⟩,
            fun x hx => by obtain ⟨i', h1, h2, h3⟩ := m7 x hx; exact ⟨i', by omega, by omega, h3⟩, m8, by simp [m9], fun i' h1 h2 => ⟨(m10 i' (by omega) h2).1, fun cc hcc => ?_⟩, hshift ?_ m11⟩
          · rcases List.mem_cons.1 hcc with rfl | hcc
            · rfl
            · exact (m10 i' (by omega) h2).2 cc hcc
          generalize c.getD (k * esz + (off + i0)) undef = y at hcell
          cases hcell
          exact rep_mkv _
        · rename_i nn' e' n' g' hx
          simp only [Option.some.injEq, Prod.mk.injEq] at h
          obtain ⟨rfl, rfl, rfl, rfl⟩ := h
          obtain ⟨hid0, hne0⟩ := hid i0 (Nat.le_refl _) (by omega)
          have hi1 : ι1 i = .slice (some ⟨b, 0, none⟩) m cap := by
            rw [m5 i fun i' h1 h2 he => (hid i' (by omega) (by omega)).2 he.symm]; exact hi
          obtain ⟨ow2, how, m12⟩ := m1.extract (e := nm d i0) m3 hk (show off + i0 < esz by omega) (by rw [hole_append_none (fun x hx => by have := (m6 x hx).1; omega)]; exact hh) hx (m10 i0 (by omega) hid0).1 hne0 hi1 hb
          refine ⟨_, ow2, _, m12, m2, ?_, fun x hx => ?_, fun x hx => ?_, fun x hx => ?_, fun x hx => ?_, fun h => (by cases h), by simp [m9], fun i' h1 h2 => ⟨?_, fun cc hcc => ?_⟩, hshift ?_ fun j cc hj => ?_⟩
          · rw [St.obj_setOb, if_neg hne0, St.obj_setOb, if_pos rfl]; rfl
          · rw [St.obj_setOb, St.obj_setOb]
            simp only [List.map_cons, updO]
            by_cases hxe : nm d i0 = x
            · subst hxe
              rw [if_pos rfl]
              rw [updO_out]
              · simp
              · intro hm'
                simp only [List.map_map, List.mem_map] at hm'
                obtain ⟨y, hy, he⟩ := hm'
                obtain ⟨i', h1, h2, h3⟩ := m7 y hy
                have : nm d i' = nm d i0 := h3.symm.trans he
                have := nm_inj this
                omega
            · rw [if_neg hxe, if_neg (fun h => hx h.symm), m4 x hx]
              exact updO_congr _ _ _ _ (by simp [hxe])
          · show (if x = nm d i0 then _ else ι1 x) = ι x
            rw [if_neg (hx i0 (Nat.le_refl _) (by omega))]
            exact m5 x fun i' h1 h2 => hx i' (by omega) (by omega)
          · rcases List.mem_cons.1 hx with rfl | hx
            · exact ⟨Nat.le_refl _, i0, Nat.le_refl _, rfl⟩
            · obtain ⟨h1, i', h2, h3⟩ := m6 x hx
              exact ⟨by omega, i', by omega, h3⟩
          · rcases List.mem_cons.1 hx with rfl | hx
            · exact ⟨i0, Nat.le_refl _, by omega, rfl⟩
            · obtain ⟨i', h1, h2, h3⟩ := m7 x hx
              exact ⟨i', by omega, by omega, h3⟩
          · have h3 := (m10 i' (by omega) h2).1
            refine ⟨h3.1, fun x o hx => ?_, h3.2.2⟩
            rw [St.obj_setOb] at hx
            split at hx
            · cases hx; rfl
            · rw [St.obj_setOb] at hx
              split at hx
              · cases hx
                have h4 := h3.2.1 i _ m3
                simp only [Ob.noid, List.all_cons, Bool.and_eq_true, bne_iff_ne, ne_eq] at h4 ⊢
                exact ⟨fun e => (by have := nm_inj e; omega), h4⟩
              · exact h3.2.1 x o hx
          · rcases List.mem_cons.1 hcc with rfl | hcc
            · simp only [AV.noid, bne_iff_ne, ne_eq]
              intro e
              have := nm_inj e
              omega
            · exact (m10 i' (by omega) h2).2 cc hcc
          · have e1 : (if nm d i0 = nm d i0 then c.getD (k * esz + (off + i0)) undef else ι1 (nm d i0)) = c.getD (k * esz + (off + i0)) undef := if_pos rfl
            have := RepA.own (F := zF cx ow2) (Z := zZ cx ow2) (ι := fun t => if t = nm d i0 then c.getD (k * esz + (off + i0)) undef else ι1 t) (w := w) (nm d i0)
            simp only [if_true] at this
            exact this
          · refine (m11 j cc hj).mono (fun b' hb' _ => ⟨rfl, how b' hb'.1, hb'.2⟩) (fun b' hb' _ => ⟨rfl, how b' hb'.1, hb'.2⟩) fun x hx => ?_
            have := (m10 i0 (by omega) hid0).2 cc (List.mem_of_getElem? hj)
            rw [if_neg (fun e => by rw [e] at hx; rw [this] at hx; cases hx)]
        · cases h
theorem sound_load {t : TypeId} {td : TypeDesc} {n : Nat} {x : Operand} (ht : P.underlying t = some td) (hn : (P.info? t).map (·.size) = some n) : Sound P cx (.load t x) (.load (aggD td) n x) := by
  intro det ι ow s a w d K hm h hfr o ho next Q hnx
  simp only [IOp.opds, List.map_cons, List.map_nil, res] at h
  have h1 := eval_rep hm x
  have val : ∀ c v, K c [] → RepA (zF cx ow) (zZ cx ow) ι w c v → (execOp a.eval o).run P w = .ok (.value v) w → o.wp P a w next Q := fun c v hk hr he => by
    unfold Oper.wp
    rw [he, Oper.upon_value]
    exact hnx ι ow c [] v w hk hm hr
  split at h
  · rename_i fr m g hvs
    simp only [List.cons.injEq, and_true] at hvs
    rw [hvs, rep_p] at h1
    generalize he : a.eval x = y at h1
    cases h1 with
    | pp _ _ b off vl hc hr hz =>
      split at h
      · rename_i hd
        simp only [Cnd.holds, opt, decide_eq_true_eq] at h
        have hv := run_loadVar ht hn vl (fun j hj => hc j (by omega)) (w := w) (b := b) (off := off) (fun e => by simp [hd] at e)
        simp only [hd, if_true] at hv
        refine val _ _ h.2.2 ?_ (run_loadAt he hv o ho)
        refine .ag _ _ (by simp) fun j c hj => ?_
        simp only [List.getElem?_map, Option.map_eq_some_iff] at hj
        obtain ⟨e, hj, rfl⟩ := hj
        obtain ⟨hjn, rfl⟩ := List.getElem?_eq_some_iff.1 hj
        simp only [List.length_range] at hjn
        simp only [List.getElem_range]
        rw [getD_range_map _ _ _ hjn]
        exact rep_mk (hr _ (by omega))
      · rename_i hd
        simp only [Cnd.holds, opt, Bool.and_eq_true, decide_eq_true_eq] at h
        obtain ⟨⟨hle, rfl⟩, _, h⟩ := h
        have hv := run_loadVar ht hn vl (fun j hj => hc j (by omega)) (w := w) (b := b) (off := off) (fun e => by omega)
        simp only [hd, Bool.false_eq_true, if_false] at hv
        exact val _ _ h (rep_mk (hr 0 (by omega))) (run_loadAt he hv o ho)
  · rename_i i off hvs
    simp only [List.cons.injEq, and_true] at hvs
    split at h
    · rename_i cs hob
      rw [hvs] at h1
      generalize he : a.eval x = y at h1
      cases h1 with
      | adr _ _ b hb =>
        obtain ⟨b', c, tt, h4, h0, h5, h6, h7⟩ := hm.obs i _ hob
        rw [hb] at h4
        simp only [Value.pointer.injEq, Option.some.injEq, Addr.mk.injEq] at h4
        obtain ⟨rfl, _⟩ := h4
        split at h
        · rename_i hd
          simp only [Cnd.holds, opt, decide_eq_true_eq] at h
          obtain ⟨hle, _, h⟩ := h
          have hc : ∀ j, j < n → w.cell? ⟨b, off + j, none⟩ = some (c.getD (off + j) undef) := fun j hj => cell_of_row h5 (by omega)
          have hv := run_loadVar ht hn (fun j => c.getD (off + j) undef) hc (fun e => by simp [hd] at e)
          simp only [hd, if_true] at hv
          refine val _ _ h ?_ (run_loadAt he hv o ho)
          refine .ag _ _ (by simp; omega) fun j e hj => ?_
          rw [List.getElem?_take] at hj
          split at hj
          · rename_i hjn
            rw [getD_range_map _ _ _ hjn]
            exact h7 _ e (by simpa using hj)
          · cases hj
        · rename_i hd
          simp only [Cnd.holds, opt, Bool.and_eq_true, decide_eq_true_eq] at h
          obtain ⟨⟨hle, rfl⟩, _, h⟩ := h
          have hc : ∀ j, j < 1 → w.cell? ⟨b, off + j, none⟩ = some (c.getD (off + j) undef) := fun j hj => cell_of_row h5 (by omega)
          have hv := run_loadVar ht hn (fun j => c.getD (off + j) undef) hc (fun e => by omega)
          simp only [hd, Bool.false_eq_true, if_false] at hv
          refine val _ _ h (h7 off _ ?_) (run_loadAt he hv o ho)
          simp [List.getD, List.getElem?_eq_getElem (show off < cs.length by omega)]
    · exact h.elim
  · rename_i i esz k off hvs
    simp only [List.cons.injEq, and_true] at hvs
    split at h
    · rename_i m nn esz' n' g hl hob
      have hmemf : ∀ i', i' < n → nm d i' ∈ IOp.fresh d (.load (aggD td) n x) := fun i' h => by
        simp only [IOp.fresh, List.mem_map, List.mem_range]; exact ⟨i', h, rfl⟩
      have hnoti : ∀ i', i' < n → nm d i' ≠ i := fun i' h e => by
        have := opd_noid (G := cx.G) (hfr _ (hmemf i' h)) x
        rw [hvs] at this
        simp [AV.noid, e] at this
      rw [hvs] at h1
      generalize he : a.eval x = y at h1
      cases h1 with
      | elt _ _ _ _ b nl cap hb =>
        have hob' := hm.obs i _ hob
        -- the row's block
        have row : k < n' → esz = esz' → off + n ≤ esz → ∃ c tt, w.heap[b]? = some (.cells c tt (0, 0)) ∧ (∀ j, j < n → w.cell? ⟨b, k * esz + off + j, none⟩ = some (c.getD (k * esz + (off + j)) undef)) ∧
            ∃ q, ∀ j, j < esz → EltOk m (zF cx ow) (zZ cx ow) (fun b => ow b = some i) q ι hl w k j (g k j) (c.getD (k * esz + j) undef) := by
          rintro hk rfl hle
          rcases hob' with ⟨rfl, _⟩ | ⟨b', cap', c, tt, q, h4, h0, h5, h6, h7, hq, h9⟩
          · omega
          · rw [hb] at h4
            simp only [Value.slice.injEq, Option.some.injEq, Addr.mk.injEq] at h4
            obtain ⟨⟨rfl, _⟩, rfl, rfl⟩ := h4
            refine ⟨c, tt, h5, fun j hj => ?_, q, fun j hj => h9 k j hk hj⟩
            have := idx_lt hk (show off + j < esz by omega)
            have := Nat.mul_le_mul_right esz h6
            rw [Nat.add_assoc]
            exact cell_of_row h5 (by omega)
        -- rows of shared or fresh data
        have flat : ∀ fr : Bool, m = (if fr then .f else .z) →
            Cnd.holds P cx.G s.obj d det K (match aggD td with
              | true => .val (decide (esz = esz') && decide (off + n ≤ esz)) (some (k < n')) (.ag ((List.range n).map fun j => AV.mk fr (g k (off + j)))) []
              | false => .val (decide (esz = esz') && decide (off + n ≤ esz) && decide (n = 1)) (some (k < n')) (AV.mk fr (g k off)) []) → o.wp P a w next Q := by
          intro fr hmm h
          have rp : ∀ q c v, EltOk m (zF cx ow) (zZ cx ow) (fun b => ow b = some i) q ι hl w k c (g k c) v → RepA (zF cx ow) (zZ cx ow) ι w (AV.mk fr (g k c)) v := by
            intro q c v h
            subst hmm
            cases fr with
            | true => exact rep_mk (fr := true) h
            | false => exact rep_mk (fr := false) h
          split at h
          · rename_i hd
            simp only [Cnd.holds, opt, Bool.and_eq_true, decide_eq_true_eq] at h
            obtain ⟨⟨h2, h3⟩, hk, h⟩ := h
            obtain ⟨c, tt, r1, r2, q, r3⟩ := row hk h2 h3
            have hv := run_loadVar ht hn (fun j => c.getD (k * esz + (off + j)) undef) r2 (fun e => by simp [hd] at e)
            simp only [hd, if_true] at hv
            refine val _ _ h ?_ (run_loadAt he hv o ho)
            refine .ag _ _ (by simp) fun j e hj => ?_
            simp only [List.getElem?_map, Option.map_eq_some_iff] at hj
            obtain ⟨e, hj, rfl⟩ := hj
            obtain ⟨hjn, rfl⟩ := List.getElem?_eq_some_iff.1 hj
            simp only [List.length_range] at hjn
            simp only [List.getElem_range]
            rw [getD_range_map _ _ _ hjn]
            exact rp q _ _ (r3 _ (by omega))
          · rename_i hd
            simp only [Cnd.holds, opt, Bool.and_eq_true, decide_eq_true_eq] at h
            obtain ⟨⟨⟨h2, h3⟩, rfl⟩, hk, h⟩ := h
            obtain ⟨c, tt, r1, r2, q, r3⟩ := row hk h2 h3
            have hv := run_loadVar ht hn (fun j => c.getD (k * esz + (off + j)) undef) r2 (fun e => by omega)
            simp only [hd, Bool.false_eq_true, if_false] at hv
            exact val _ _ h (rp q _ _ (r3 _ (by omega))) (run_loadAt he hv o ho)
        cases m with
        | z => exact flat false rfl h
        | f => exact flat true rfl h
        | u =>
          simp only at h
          split at h
          · rename_i cs ps hs os hex
            split at h
            · rename_i c0 hc0
              simp only [Cnd.holds, Bool.and_eq_true, decide_eq_true_eq, Bool.or_eq_true] at h
              obtain ⟨⟨⟨h2, h3⟩, h3'⟩, hp, h⟩ := h
              have hall := andP_all hp
              have hk : k < n' := hall _ List.mem_cons_self
              obtain ⟨c, tt, r1, r2, q, r3⟩ := row hk h2 h3
              subst h2
              obtain ⟨ι', ow', s', m1, m2, m3, m4, m5, m6, m7, m8, m9, m10, m11⟩ := extr_ok hm hob hk hb r1 off n 0 cs ps hs os hex (fun p hp => hall p (List.mem_cons_of_mem _ hp)) (by omega)
                (fun i' _ hlt => ⟨hfr _ (hmemf i' (by omega)), hnoti i' (by omega)⟩)
              -- the state in the words of the description
              have hm' : Models cx ι' ow' (s.upd (extU i (.row .u nn esz n' g (hs ++ hl)) os hs)) a w := by
                refine m1.same (fun t => by rw [get_upd]; simp only [St.get, m2]) fun x => ?_
                rw [obj_upd]
                cases hs with
                | nil =>
                  simp only [extU, updO]
                  by_cases hxi : x = i
                  · subst hxi; rw [m3]; exact hob
                  · rw [m4 x hxi, m8 rfl]; rfl
                | cons y hs =>
                  simp only [extU, updO]
                  by_cases hxi : x = i
                  · subst hxi
                    rw [m3, updO_out]
                    · simp
                    · intro hmem
                      simp only [List.map_map, List.mem_map] at hmem
                      obtain ⟨z, hz, he'⟩ := hmem
                      obtain ⟨i', h1, h2, h3⟩ := m7 z hz
                      have hz1 : z.1 = x := he'
                      exact hnoti i' (by omega) (h3.symm.trans hz1)
                  · rw [m4 x hxi]
                    have hne : ¬ i = x := fun e => hxi e.symm
                    exact updO_congr _ _ _ _ (by rw [if_neg hne])
              have hw0 : ∀ j, c.getD (k * esz + (off + (0 + j))) undef = c.getD (k * esz + (off + j)) undef := fun j => by rw [Nat.zero_add]
              unfold Oper.wp
              cases hd : aggD td with
              | true =>
                simp only [hd, if_true, Option.some.injEq] at hc0
                subst hc0
                have hv := run_loadVar ht hn (fun j => c.getD (k * esz + (off + j)) undef) r2 (fun e => by simp [hd] at e)
                simp only [hd, if_true] at hv
                rw [run_loadAt he hv o ho, Oper.upon_value]
                refine hnx ι' ow' _ _ _ w h hm' (.ag _ _ (by simp [m9]) fun j e hj => ?_)
                have hjn : j < n := by rw [← m9]; exact (List.getElem?_eq_some_iff.1 hj).1
                rw [getD_range_map _ _ _ hjn, ← hw0]
                exact m11 j e hj
              | false =>
                simp only [hd, Bool.false_eq_true, if_false] at hc0 h3'
                have hn1 : n = 1 := by rcases h3' with h | h; cases h; exact h
                subst hn1
                have hv := run_loadVar ht hn (fun j => c.getD (k * esz + (off + j)) undef) r2 (fun e => by omega)
                simp only [hd, Bool.false_eq_true, if_false] at hv
                rw [run_loadAt he hv o ho, Oper.upon_value]
                refine hnx ι' ow' _ _ _ w h hm' ?_
                have := m11 0 c0 (by rw [← hc0]; cases cs <;> rfl)
                rwa [hw0] at this
            · exact h.elim
          · exact h.elim
    · exact h.elim
  · exact h.elim
end
end Go.Gw
