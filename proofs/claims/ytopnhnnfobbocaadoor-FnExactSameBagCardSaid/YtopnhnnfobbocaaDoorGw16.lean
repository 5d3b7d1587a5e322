/- Appending: the operation in all worlds; with no condition. -/
import Derived.Test.YtopnhnnfobbocaaDoorGw15
namespace Go.Gw
open Go
set_option linter.unusedVariables false
set_option linter.unusedSimpArgs false

theorem getD_append (xs ys : Array Value) (j : Nat) : (xs ++ ys).getD j undef = if j < xs.size then xs.getD j undef else ys.getD (j - xs.size) undef := by
  simp only [Array.getD_eq_getD_getElem?, Array.getElem?_append]
  split <;> rfl

theorem news_get {n : Nat} {vals : Nat → Value} {j : Nat} {v : Value} (h : ((List.range n).map vals)[j]? = some v) : j < n ∧ v = vals j := by
  simp only [List.getElem?_map, Option.map_eq_some_iff] at h
  obtain ⟨k, hk, rfl⟩ := h
  obtain ⟨h1, h2⟩ := List.getElem?_eq_some_iff.1 hk
  simp only [List.length_range] at h1
  simp only [List.getElem_range] at h2
  subst h2
  exact ⟨h1, rfl⟩

theorem news_getD {n : Nat} {vals : Nat → Value} {k : Nat} (h : k < n) : ((List.range n).map vals).toArray.getD k undef = vals k := getD_range_map n vals k h

theorem drew_alloc (w : World) (o : Obj) : (w.drew.alloc o).heap[w.heap.size]? = some o := by
  show (w.heap.push o)[w.heap.size]? = some o
  simp

section
variable {P : Program} {cx : Cx} {ι : Nat → Value} {ow : Nat → Option Nat} {s : St} {a : Act} {w : World} {d : Nat}

theorem sound_app {t e : TypeId} {i : TypeInfo} {z : Value} {scal : Bool} {x y : Operand} (ht : P.underlying t = some (.slice e)) (hi : P.info? e = some i) (hz : i.zero = some z) (hzs : z.cells.size = i.size) :
    Sound P cx (.call { callee := .builtin .append, args := #[x, y], argTypes := #[t, t] }) (.app i.size i.bytes scal x y) := by
  intro det ι ow s a w d K hm h hfr o ho next Q hnx
  simp only [IOp.opds, List.map_cons, List.map_nil, res] at h
  have hx := eval_rep hm x
  have hy := eval_rep hm y
  have hd := hfr d (by simp [IOp.fresh])
  have hrun : ∀ v w', (Builtin.append_ #[t, t] o.type #[a.eval x, a.eval y]).run P w = .ok v w' → (execOp a.eval o).run P w = .ok (.value v) w' := fun v w' h => by
    simp [execOp, ho, resolve, invoke, builtin, h]
  unfold Oper.wp
  split at h
  · rename_i n' g' m' dead p hsrc0
    split at h
    · -- onto nothing
      rename_i fr hxe
      simp only [Cnd.holds, Bool.and_eq_true, decide_eq_true_eq, Bool.not_eq_true', List.contains_eq_mem, decide_eq_false_iff_not] at h
      obtain ⟨⟨h0, hdd⟩, hp, h⟩ := h
      have hall := andP_all hp
      obtain ⟨hb1, hb2⟩ := hall _ List.mem_cons_self
      have hp' : opt p := by
        cases p with
        | none => trivial
        | some q => exact hall q (List.mem_cons_of_mem _ (by simp))
      obtain ⟨pt, c, vals, hv, hnc, hcell, hone, qs, hdo, hsrc⟩ := src_spec hm h0 hy hsrc0 hp'
      rw [hxe] at hx
      have hx := rep_v hx
      rw [hx, hv] at hrun
      by_cases hn : n' = 0
      · subst hn
        rw [hrun _ _ (run_append_nothing t o.type e i ht hi none 0 0 pt c (Nat.le_refl _)), Oper.upon_value]
        obtain ⟨ow', hm'⟩ := hm.emptyRow hd dead (p := none) (m := m') (nn := false) (esz := i.size) (g := g') (hl := []) (fun _ => rfl) (fun ad h => by cases h)
        exact hnx _ ow' _ _ _ _ h (by rw [upd_delU]; exact hm') (own_self _)
      · obtain ⟨ad, rfl, hc2⟩ := hcell (by omega)
        have hap := run_append_nil (P := P) w t o.type e i z ht hi hz ad n' c ((List.range (n' * i.size)).map vals) (by simp) (fun j v hj => by
          obtain ⟨h1, rfl⟩ := news_get hj
          exact hc2 j h1) (by omega) hb2 (by omega)
        rw [hrun _ _ hap, Oper.upon_value]
        have hm' := hm.grown (tt := e) (arr := ((List.range (n' * i.size)).map vals).toArray ++ Builtin.zeroCells z.cells (grownCap w n' 0 e - n')) (cap := grownCap w n' 0 e) (o0 := none) (j := d) (n := 0) (m := .u) (nn := false) (g := fun _ _ => .any) (hl := []) (q := fun _ => none) (olds := fun _ => undef) hd ((Grows.drew w).trans (Grows.alloc _ _)) (Nat.le_refl _) (drew_alloc w _) (by cases m' <;> simp [Mode.le]) (Mode.le_refl m') (fun _ => rfl) hdd (by rw [Nat.zero_add]; exact grownCap_ge w n' 0 e) (by
            have := grownCap_ge w n' 0 e
            simp only [Array.size_append, List.size_toArray, List.length_map, List.length_range, size_zeroCells, hzs, ← Nat.add_mul]
            exact Nat.mul_le_mul_right _ (by omega)) (fun x hx => by cases hx) (fun x hx => by cases hx) (fun p r hp => by omega) hsrc (fun k hk => by omega) (fun k hk => by
            rw [Nat.zero_mul, Nat.zero_add, getD_append]
            rw [if_pos (by simpa using hk)]
            exact news_getD hk)
        refine hnx _ _ _ _ _ _ h (hm'.same (fun t => ?_) fun k => ?_) ?_
        · rw [get_upd]
          show s.get t = St.get (St.setOb _ _ _) t
          have e1 : (St.setOb (s.dels (dead ++ [d])) d (.row m' false i.size (0 + n') (fun a b => if a < 0 then PV.any else g' (a - 0) b) [])).env = s.env := env_dels _ s
          simp only [St.get, e1]
        · rw [upd_delU]
          simp only [St.upd, St.obj_setOb, obj_dels, List.mem_append, List.mem_singleton, Nat.zero_add, Nat.not_lt_zero, if_false, Nat.sub_zero]
          by_cases hk : d = k
          · simp [hk]
          · have : ¬ k = d := fun e => hk e.symm
            simp [hk, this]
        · have e1 : (Value.slice (some ⟨w.heap.size, 0, none⟩) (0 + n') (grownCap w n' 0 e)) = .slice (some ⟨w.heap.size, 0, none⟩) n' (grownCap w n' 0 e) := by rw [Nat.zero_add]
          rw [← e1]
          exact own_self _
    · rename_i j hxe
      split at h
      · rename_i m nn e' n g hl hob
        simp only [Cnd.holds, Bool.and_eq_true, Bool.not_eq_true', List.contains_eq_mem, decide_eq_false_iff_not, bne_iff_ne, ne_eq] at h
        obtain ⟨⟨⟨⟨⟨hA, hdd⟩, hjdead⟩, hjd⟩, hM⟩, hp, h⟩ := h
        obtain ⟨h0, rfl⟩ := of_decide_eq_true hA
        have hall := andP_all hp
        obtain ⟨hb1, hb2⟩ := hall _ List.mem_cons_self
        have hp' : opt p := by
          cases p with
          | none => trivial
          | some q => exact hall q (List.mem_cons_of_mem _ (List.mem_append_left _ (by simp)))
        have hhl : ∀ x ∈ hl, x.1 < n := fun x hx => hall _ (List.mem_cons_of_mem _ (List.mem_append_right _ (List.mem_map.2 ⟨x, hx, rfl⟩)))
        have hnil : m.min m' ≠ .u → hl = [] := fun hne => by
          cases hmm : m.min m' with
          | u => exact (hne hmm).elim
          | f => rw [hmm] at hM; simpa using hM
          | z => rw [hmm] at hM; simpa using hM
        have hhd : ∀ x ∈ hl, x.2.2 ≠ d := fun x hx e => by
          have := hd.2.1 j _ hob
          simp only [Ob.noid, List.all_eq_true] at this
          have := this x hx
          simp [e] at this
        obtain ⟨pt, c, vals, hv, hnc, hcell, hone, qs, hdo, hsrc⟩ := src_spec hm h0 hy hsrc0 hp'
        rw [hxe] at hx
        generalize hev : a.eval x = xv at hx hrun
        cases hx with
        | own _ =>
          rw [hv] at hrun
          -- the state in the description's words
          have hst : ∀ {ι2 : Nat → Value} {ow2 : Nat → Option Nat} {w2 : World} {r : Ob}, Models cx ι2 ow2 ((s.dels (dead ++ [j])).setOb d r) a w2 → Models cx ι2 ow2 (s.upd (delU dead ++ [(j, none), (d, some r)])) a w2 := fun {ι2 ow2 w2 r} hm2 => by
            rw [upd_delU]
            rw [dels_append] at hm2
            exact hm2
          have hgrow : ∀ (q : Nat → Option (Nat × Nat)) (olds : Nat → Value) (p0 : Option Addr) (cap : Nat), ι j = .slice p0 n cap → cap < n + n' →
              (0 < n → ∃ b0 c0 tt, p0 = some ⟨b0, 0, none⟩ ∧ w.heap[b0]? = some (.cells c0 tt (0, 0)) ∧ n * i.size ≤ c0.size ∧ olds = fun k => c0.getD k undef) →
              (∀ p r, p < n → r < i.size → EltOk m (zF cx ow) (zZ cx ow) (fun b => ow b = some j) q ι hl w p r (g p r) (olds (p * i.size + r))) → o.upon P a next Q ((execOp a.eval o).run P w) := by
            intro q olds p0 cap hιj hlt hold1 hold
            have hn' : 0 < n' ∨ n' = 0 := by omega
            rcases hn' with hn' | hn'
            · obtain ⟨ad, rfl, hc2⟩ := hcell hn'
              have hfin : ∀ (arr : Array Value) (cap2 : Nat), (∀ k, k < n * i.size → arr.getD k undef = olds k) → (∀ k, k < n' * i.size → arr.getD (n * i.size + k) undef = vals k) → n + n' ≤ cap2 → cap2 * i.size ≤ arr.size →
                  next (a.put o.dst (.slice (some ⟨w.heap.size, 0, none⟩) (n + n') cap2)) (w.drew.alloc (.cells arr e)) := by
                intro arr cap2 ha1 ha2 hc2 hs2
                have hm' := hm.grown (o0 := none) (j := j) (n := n) (n' := n') (m := m) (M := m.min m') (nn := nn) (g := g) (hl := hl) (q := q) (olds := olds) (news := vals) (arr := arr) (cap := cap2) (tt := e) hd ((Grows.drew w).trans (Grows.alloc _ _)) (Nat.le_refl _) (drew_alloc w _) (Mode.min_le1 _ _) (Mode.min_le2 _ _) hnil hjdead hc2 hs2 hhl hhd hold hsrc ha1 ha2
                exact hnx _ _ _ _ _ _ h (hst hm') (own_self _)
              cases p0 with
              | none =>
                have hn0 : n = 0 := by
                  rcases Nat.eq_zero_or_pos n with h | h
                  · exact h
                  · obtain ⟨b0, _, _, h1, _⟩ := hold1 h; cases h1
                subst hn0
                have hcap0 : cap = 0 := by
                  rcases hm.obs j _ hob with ⟨_, ⟨_, h2⟩ | ⟨b, off, h2⟩⟩ | ⟨b, cap', c', tt, q', h2, _⟩ <;> rw [hιj] at h2 <;> simp at h2
                  exact h2
                subst hcap0
                rw [hιj] at hrun
                have hap := run_append_nil (P := P) w t o.type e i z ht hi hz ad n' c ((List.range (n' * i.size)).map vals) (by simp) (fun j v hj => by
                  obtain ⟨h1, rfl⟩ := news_get hj
                  exact hc2 j h1) hn' (by simpa using hb2) (by
                    have : (0 + n') * i.bytes = n' * i.bytes := by rw [Nat.zero_add]
                    omega)
                rw [hrun _ _ hap, Oper.upon_value]
                have := hfin (((List.range (n' * i.size)).map vals).toArray ++ Builtin.zeroCells z.cells (grownCap w n' 0 e - n')) (grownCap w n' 0 e) (fun k hk => by omega) (fun k hk => by
                  rw [Nat.zero_mul, Nat.zero_add, getD_append, if_pos (by simpa using hk)]
                  exact news_getD hk) (by rw [Nat.zero_add]; exact grownCap_ge w n' 0 e) (by
                  have := grownCap_ge w n' 0 e
                  simp only [Array.size_append, List.size_toArray, List.length_map, List.length_range, size_zeroCells, hzs, ← Nat.add_mul]
                  exact Nat.mul_le_mul_right _ (by omega))
                rwa [Nat.zero_add] at this
              | some b =>
                rw [hιj] at hrun
                have holds : ∃ ol : List Value, ol.length = n * i.size ∧ (∀ j v, ol[j]? = some v → w.cell? (b.add j) = some v) ∧ ∀ k, k < n * i.size → ol.toArray.getD k undef = olds k := by
                  rcases Nat.eq_zero_or_pos n with h | h
                  · subst h; exact ⟨[], by simp, fun j v h => by simp at h, fun k hk => by omega⟩
                  · obtain ⟨b0, c0, tt, h1, h2, h3, h4⟩ := hold1 h
                    cases h1
                    refine ⟨c0.toList.take (n * i.size), by simp; omega, cellAt h2 h3, fun k hk => ?_⟩
                    rw [h4]
                    simp [Array.getD_eq_getD_getElem?, List.getElem?_take, hk]
                obtain ⟨ol, ol1, ol2, ol3⟩ := holds
                have hap := run_append_grow (P := P) w t o.type e i z ht hi hz b n cap ol ol1 ol2 ad n' c ((List.range (n' * i.size)).map vals) (by simp) (fun j v hj => by
                  obtain ⟨h1, rfl⟩ := news_get hj
                  exact hc2 j h1) hlt hb2 (growslice_fits hlt hb1)
                rw [hrun _ _ hap, Oper.upon_value]
                refine hfin _ _ (fun k hk => ?_) (fun k hk => ?_) (grownCap_ge _ _ _ _) ?_
                · rw [getD_append, if_pos (by simp [ol1]; omega), getD_append, if_pos (by simpa [ol1] using hk)]
                  exact ol3 k hk
                · rw [getD_append, if_pos (by simp [ol1]; omega), getD_append, if_neg (by simp [ol1])]
                  rw [show n * i.size + k - ol.toArray.size = k by simp [ol1]]
                  exact news_getD hk
                · have := grownCap_ge w (n + n') cap e
                  simp only [Array.size_append, List.size_toArray, List.length_map, List.length_range, size_zeroCells, hzs, ol1, ← Nat.add_mul]
                  exact Nat.mul_le_mul_right _ (by omega)
            · subst hn'
              exfalso
              have := hm.obs j _ hob
              rcases this with ⟨rfl, _⟩ | ⟨b, cap', c', tt, q', h2, _, _, h3, _⟩
              · omega
              · rw [hιj] at h2
                simp only [Value.slice.injEq] at h2
                omega
          rcases hm.obs j _ hob with ⟨rfl, hcase⟩ | ⟨b, cap, c0, tt, q, h4, hj0, h6, h7, h8, hq, h9⟩
          · -- no element
            have hval : ∃ p0, ι j = .slice p0 0 0 ∧ (p0 = none → nn = false) ∧ ∀ ad, p0 = some ad → ad.spot = none := by
              rcases hcase with ⟨e1, e2⟩ | ⟨b, off, e2⟩
              · exact ⟨none, e2, fun _ => e1, fun ad h => by cases h⟩
              · exact ⟨_, e2, (fun h => by cases h), fun ad h => by cases h; rfl⟩
            obtain ⟨p0, hp1, hp2, hp3⟩ := hval
            by_cases hn : n' = 0
            · subst hn
              rw [hp1] at hrun
              rw [hrun _ _ (run_append_nothing t o.type e i ht hi p0 0 0 pt c (Nat.le_refl _)), Oper.upon_value]
              obtain ⟨ow', hm'⟩ := hm.emptyRow hd (dead ++ [j]) (p := p0) (m := m.min m') (nn := nn) (esz := i.size) (g := fun a b => if a < 0 then g a b else g' (a - 0) b) (hl := hl) hp2 hp3
              exact hnx _ ow' _ _ _ _ h (hst hm') (own_self _)
            · exact hgrow (fun _ => none) (fun _ => undef) p0 0 hp1 (by omega) (fun h => by omega) (fun p r hp => by omega)
          · by_cases hroom : n + n' ≤ cap
            · by_cases hn : n' = 0
              · subst hn
                rw [h4] at hrun
                rw [hrun _ _ (run_append_nothing t o.type e i ht hi (some ⟨b, 0, none⟩) n cap pt c h7), Oper.upon_value]
                have hm' := hm.filled (M := m.min m') (nn := nn) (arr := c0) (olds := fun k => c0.getD k undef) hd hob hjd hj0 hq rfl rfl rfl (Nat.le_refl _) (Nat.le_refl _) (fun _ _ => rfl) h6 (Mode.min_le1 _ _) (Mode.min_le2 _ _) hnil hjdead hroom h8 hhl hhd h9 hsrc (fun k hk => rfl) (fun k hk => by omega)
                exact hnx _ _ _ _ _ _ h (hst (by rw [dels_append]; exact hm')) (own_self _)
              · obtain ⟨ad, rfl, hc2⟩ := hcell (by omega)
                rw [h4] at hrun
                have hfit : n * i.size + ((List.range (n' * i.size)).map vals).length ≤ c0.size := by
                  simp only [List.length_map, List.length_range, ← Nat.add_mul]
                  have := Nat.mul_le_mul_right i.size hroom
                  omega
                have hap := run_append_into (P := P) (w := w) t o.type e i ht hi b n cap c0 tt h6 ad n' c ((List.range (n' * i.size)).map vals) (by simp) (fun j v hj => by
                  obtain ⟨h1, rfl⟩ := news_get hj
                  exact hc2 j h1) (fun u hu => by
                  obtain ⟨k, hk, rfl⟩ := List.mem_map.1 hu
                  exact hone k (by simpa using hk)) hroom hfit
                rw [hrun _ _ hap, Oper.upon_value]
                obtain ⟨f1, f2, f3, f4, f5, f6⟩ := setRow_facts (new := (c0.toList.take (n * i.size) ++ (List.range (n' * i.size)).map vals ++ c0.toList.drop (n * i.size + ((List.range (n' * i.size)).map vals).length)).toArray) h6
                have hm' := hm.filled (M := m.min m') (nn := nn) (olds := fun k => c0.getD k undef) hd hob hjd hj0 hq f4 f5 f6 (Nat.le_refl _) (by rw [f3]; exact Nat.le_refl _) f2 f1 (Mode.min_le1 _ _) (Mode.min_le2 _ _) hnil hjdead hroom (by
                  simp only [List.size_toArray, List.length_append, List.length_take, List.length_drop, Array.length_toList]
                  simp only [List.length_map, List.length_range] at hfit ⊢
                  omega) hhl hhd h9 hsrc (fun k hk => by
                    rw [getD_splice _ _ _ _ (by simpa using hfit), if_neg (by omega)]
                    simp [List.getD, Array.getD_eq_getD_getElem?]) (fun k hk => by
                    rw [getD_splice _ _ _ _ (by simpa using hfit), if_pos ⟨by omega, by simp; omega⟩]
                    rw [show n * i.size + k - n * i.size = k by omega]
                    have := news_getD (vals := vals) hk
                    simpa [List.getD, Array.getD_eq_getD_getElem?] using this)
                exact hnx _ _ _ _ _ _ h (hst (by rw [dels_append]; exact hm')) (own_self _)
            · refine hgrow q (fun k => c0.getD k undef) (some ⟨b, 0, none⟩) cap h4 (by omega) (fun _ => ⟨b, c0, tt, rfl, h6, ?_, rfl⟩) h9
              have := Nat.mul_le_mul_right i.size h7
              omega
      · exact h.elim
    · exact h.elim
  · exact h.elim
end
end Go.Gw
