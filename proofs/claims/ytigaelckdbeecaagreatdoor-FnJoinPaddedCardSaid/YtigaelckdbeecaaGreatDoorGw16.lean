/- Appending: the operation in all worlds; with no condition. -/
import Derived.Test.YtigaelckdbeecaaGreatDoorGw13
import Derived.Laws.StructEq
import Derived.MapKept
namespace Go.Gw
open Go
set_option linter.unusedVariables false
set_option linter.unusedSimpArgs false
theorem getD_append (xs ys : Array Value) (j : Nat) : (xs ++ ys).getD j undef = if j < xs.size then xs.getD j undef else ys.getD (j - xs.size) undef := by
  simp only [Array.getD_eq_getD_getElem?, Array.getElem?_append]
  split <;> rfl
theorem news_get {n : Nat} {vals : Nat → Value} {j : Nat} {v : Value} (h : ((List.range n).map vals)[j]? = some v) : j < n ∧ v = vals j := by
  simp only [List.getElem?_map, Option.map_eq_some_iff] at h
  obtain ⟨k, hk, rfl⟩ := h
  obtain ⟨h1, h2⟩ := List.getElem?_eq_some_iff.1 hk
  simp only [List.length_range] at h1
  simp only [List.getElem_range] at h2
  subst h2
  exact ⟨h1, rfl⟩
theorem news_getD {n : Nat} {vals : Nat → Value} {k : Nat} (h : k < n) : ((List.range n).map vals).toArray.getD k undef = vals k := getD_range_map n vals k h
theorem drew_alloc (w : World) (o : Obj) : (w.drew.alloc o).heap[w.heap.size]? = some o := by
  show (w.heap.push o)[w.heap.size]? = some o
  simp
section
variable {P : Program} {cx : Cx} {ι : Nat → Value} {ow : Nat → Option Nat} {s : St} {a : Act} {w : World} {d : Nat}
theorem app_core {t e : TypeId} {i : TypeInfo} {z : Value} {x y : Operand} {o : Oper} {Goal : Prop} (ht : P.underlying t = some (.slice e)) (hi : P.info? e = some i) (hz : i.zero = some z) (hzs : z.cells.size = i.size)
    (ho : o.op = .call { callee := .builtin .append, args := #[x, y], argTypes := #[t, t] }) (hm : Models cx ι ow s a w) (hd : s.noid d) {j n n' : Nat} {m m' : Mode} {nn : Bool} {g g' : Nat → Nat → PV} {hl : List (Nat × Nat × Nat)} {dead : List Nat}
    (hob : s.obj j = some (.row m nn i.size n g hl)) (hjd : ¬ j = d) (hjdead : j ∉ dead) (hnil : m.min m' ≠ .u → hl = []) (hhl : ∀ x ∈ hl, x.1 < n) (hhd : ∀ x ∈ hl, x.2.2 ≠ d) (hb1 : (n + n') * i.bytes ≤ 140737488355328) (hb2 : ((n + n' : Nat) : Int) ≤ 9223372036854775807)
    (hev : a.eval x = ι j) (hs : SrcOk cx ow s w i.size n' g' m' dead (a.eval y))
    (hK : ∀ v w' ι' ow', (execOp a.eval o).run P w = .ok (.value v) w' → Models cx ι' ow' ((s.dels (dead ++ [j])).setOb d (.row (m.min m') nn i.size (n + n') (fun a b => if a < n then g a b else g' (a - n) b) hl)) a w' → RepA (zF cx ow') (zZ cx ow') ι' w' (.own d) v → Goal) : Goal := by
  have hrun0 : ∀ v w', (Builtin.append_ #[t, t] o.type #[a.eval x, a.eval y]).run P w = .ok v w' → (execOp a.eval o).run P w = .ok (.value v) w' := fun v w' h => by
    simp [execOp, ho, resolve, invoke, builtin, h]
  obtain ⟨pt, c, vals, hv, hnc, hcell, hone, qs, hdo, hsrc⟩ := hs
  have hrun := hrun0
  rw [hev, hv] at hrun
  have hgrow : ∀ (q : Nat → Option (Nat × Nat)) (olds : Nat → Value) (p0 : Option Addr) (cap : Nat), ι j = .slice p0 n cap → cap < n + n' →
      (0 < n → ∃ b0 c0 tt, p0 = some ⟨b0, 0, none⟩ ∧ w.heap[b0]? = some (.cells c0 tt (0, 0)) ∧ n * i.size ≤ c0.size ∧ olds = fun k => c0.getD k undef) →
      (∀ p r, p < n → r < i.size → EltOk m (zF cx ow) (zZ cx ow) (fun b => ow b = some j) q ι hl w p r (g p r) (olds (p * i.size + r))) → Goal := by
    intro q olds p0 cap hιj hlt hold1 hold
    have hn' : 0 < n' ∨ n' = 0 := by omega
    rcases hn' with hn' | hn'
    · obtain ⟨ad, rfl, hc2⟩ := hcell hn'
      have hfin : ∀ (arr : Array Value) (cap2 : Nat), (∀ k, k < n * i.size → arr.getD k undef = olds k) → (∀ k, k < n' * i.size → arr.getD (n * i.size + k) undef = vals k) → n + n' ≤ cap2 → cap2 * i.size ≤ arr.size →
          (execOp a.eval o).run P w = .ok (.value (.slice (some ⟨w.heap.size, 0, none⟩) (n + n') cap2)) (w.drew.alloc (.cells arr e)) → Goal := by
        intro arr cap2 ha1 ha2 hc2 hs2 hr
        have hm' := hm.grown (o0 := none) (j := j) (n := n) (n' := n') (m := m) (M := m.min m') (nn := nn) (g := g) (hl := hl) (q := q) (olds := olds) (news := vals) (arr := arr) (cap := cap2) (tt := e) hd ((Grows.drew w).trans (Grows.alloc _ _)) (Nat.le_refl _) (drew_alloc w _) (Mode.min_le1 _ _) (Mode.min_le2 _ _) hnil hjdead hc2 hs2 hhl hhd hold hsrc ha1 ha2
        exact hK _ _ _ _ hr hm' (own_self _)
      cases p0 with
      | none =>
        have hn0 : n = 0 := by
          rcases Nat.eq_zero_or_pos n with h | h
          · exact h
          · obtain ⟨b0, _, _, h1, _⟩ := hold1 h; cases h1
        subst hn0
        have hcap0 : cap = 0 := by
          rcases hm.obs j _ hob with ⟨_, ⟨_, h2⟩ | ⟨b, off, h2⟩⟩ | ⟨b, cap', c', tt, q', h2, _⟩ <;> rw [hιj] at h2 <;> simp at h2
          exact h2
        subst hcap0
        rw [hιj] at hrun
        have hap := run_append_nil (P := P) w t o.type e i z ht hi hz ad n' c ((List.range (n' * i.size)).map vals) (by simp) (fun j v hj => by
          obtain ⟨h1, rfl⟩ := news_get hj
          exact hc2 j h1) hn' (by simpa using hb2) (by
            have : (0 + n') * i.bytes = n' * i.bytes := by rw [Nat.zero_add]
            omega)
        have := hfin (((List.range (n' * i.size)).map vals).toArray ++ Builtin.zeroCells z.cells (grownCap w n' 0 e - n')) (grownCap w n' 0 e) (fun k hk => by omega) (fun k hk => by
          rw [Nat.zero_mul, Nat.zero_add, getD_append, if_pos (by simpa using hk)]
          exact news_getD hk) (by rw [Nat.zero_add]; exact grownCap_ge w n' 0 e) (by
          have := grownCap_ge w n' 0 e
          simp only [Array.size_append, List.size_toArray, List.length_map, List.length_range, size_zeroCells, hzs, ← Nat.add_mul]
          exact Nat.mul_le_mul_right _ (by omega)) (by rw [Nat.zero_add]; exact hrun _ _ hap)
        exact this
      | some b =>
        rw [hιj] at hrun
        have holds : ∃ ol : List Value, ol.length = n * i.size ∧ (∀ j v, ol[j]? = some v → w.cell? (b.add j) = some v) ∧ ∀ k, k < n * i.size → ol.toArray.getD k undef = olds k := by
          rcases Nat.eq_zero_or_pos n with h | h
          · subst h; exact ⟨[], by simp, fun j v h => by simp at h, fun k hk => by omega⟩
          · obtain ⟨b0, c0, tt, h1, h2, h3, h4⟩ := hold1 h
            cases h1
            refine ⟨c0.toList.take (n * i.size), by simp; omega, cellAt h2 h3, fun k hk => ?_⟩
            rw [h4]
            simp [Array.getD_eq_getD_getElem?, List.getElem?_take, hk]
        obtain ⟨ol, ol1, ol2, ol3⟩ := holds
        have hap := run_append_grow (P := P) w t o.type e i z ht hi hz b n cap ol ol1 ol2 ad n' c ((List.range (n' * i.size)).map vals) (by simp) (fun j v hj => by
          obtain ⟨h1, rfl⟩ := news_get hj
          exact hc2 j h1) hlt hb2 (growslice_fits hlt hb1)
        refine hfin _ _ (fun k hk => ?_) (fun k hk => ?_) (grownCap_ge _ _ _ _) ?_ (hrun _ _ hap)
        · rw [getD_append, if_pos (by simp [ol1]; omega), getD_append, if_pos (by simpa [ol1] using hk)]
          exact ol3 k hk
        · rw [getD_append, if_pos (by simp [ol1]; omega), getD_append, if_neg (by simp [ol1])]
          rw [show n * i.size + k - ol.toArray.size = k by simp [ol1]]
          exact news_getD hk
        · have := grownCap_ge w (n + n') cap e
          simp only [Array.size_append, List.size_toArray, List.length_map, List.length_range, size_zeroCells, hzs, ol1, ← Nat.add_mul]
          exact Nat.mul_le_mul_right _ (by omega)
    · subst hn'
      exfalso
      have := hm.obs j _ hob
      rcases this with ⟨rfl, _⟩ | ⟨b, cap', c', tt, q', h2, _, _, h3, _⟩
      · omega
      · rw [hιj] at h2
        simp only [Value.slice.injEq] at h2
        omega
  rcases hm.obs j _ hob with ⟨rfl, hcase⟩ | ⟨b, cap, c0, tt, q, h4, hj0, h6, h7, h8, hq, h9⟩
  · -- no element
    have hval : ∃ p0, ι j = .slice p0 0 0 ∧ (p0 = none → nn = false) ∧ ∀ ad, p0 = some ad → ad.spot = none := by
      rcases hcase with ⟨e1, e2⟩ | ⟨b, off, e2⟩
      · exact ⟨none, e2, fun _ => e1, fun ad h => by cases h⟩
      · exact ⟨_, e2, (fun h => by cases h), fun ad h => by cases h; rfl⟩
    obtain ⟨p0, hp1, hp2, hp3⟩ := hval
    by_cases hn : n' = 0
    · subst hn
      rw [hp1] at hrun
      have hr := hrun _ _ (run_append_nothing t o.type e i ht hi p0 0 0 pt c (Nat.le_refl _))
      obtain ⟨ow', hm'⟩ := hm.emptyRow hd (dead ++ [j]) (p := p0) (m := m.min m') (nn := nn) (esz := i.size) (g := fun a b => if a < 0 then g a b else g' (a - 0) b) (hl := hl) hp2 hp3
      exact hK _ _ _ ow' hr hm' (own_self _)
    · exact hgrow (fun _ => none) (fun _ => undef) p0 0 hp1 (by omega) (fun h => by omega) (fun p r hp => by omega)
  · by_cases hroom : n + n' ≤ cap
    · by_cases hn : n' = 0
      · subst hn
        rw [h4] at hrun
        have hr := hrun _ _ (run_append_nothing t o.type e i ht hi (some ⟨b, 0, none⟩) n cap pt c h7)
        have hm' := hm.filled (M := m.min m') (nn := nn) (arr := c0) (olds := fun k => c0.getD k undef) hd hob hjd hj0 hq rfl rfl rfl (Nat.le_refl _) (Nat.le_refl _) (fun _ _ => rfl) h6 (Mode.min_le1 _ _) (Mode.min_le2 _ _) hnil hjdead hroom h8 hhl hhd h9 hsrc (fun k hk => rfl) (fun k hk => by omega)
        exact hK _ _ _ _ hr (by rw [dels_append]; exact hm') (own_self _)
      · obtain ⟨ad, rfl, hc2⟩ := hcell (by omega)
        rw [h4] at hrun
        have hfit : n * i.size + ((List.range (n' * i.size)).map vals).length ≤ c0.size := by
          simp only [List.length_map, List.length_range, ← Nat.add_mul]
          have := Nat.mul_le_mul_right i.size hroom
          omega
        have hap := run_append_into (P := P) (w := w) t o.type e i ht hi b n cap c0 tt h6 ad n' c ((List.range (n' * i.size)).map vals) (by simp) (fun j v hj => by
          obtain ⟨h1, rfl⟩ := news_get hj
          exact hc2 j h1) (fun u hu => by
          obtain ⟨k, hk, rfl⟩ := List.mem_map.1 hu
          exact hone k (by simpa using hk)) hroom hfit
        have hr := hrun _ _ hap
        obtain ⟨f1, f2, f3, f4, f5, f6⟩ := setRow_facts (new := (c0.toList.take (n * i.size) ++ (List.range (n' * i.size)).map vals ++ c0.toList.drop (n * i.size + ((List.range (n' * i.size)).map vals).length)).toArray) h6
        have hm' := hm.filled (M := m.min m') (nn := nn) (olds := fun k => c0.getD k undef) hd hob hjd hj0 hq f4 f5 f6 (Nat.le_refl _) (by rw [f3]; exact Nat.le_refl _) f2 f1 (Mode.min_le1 _ _) (Mode.min_le2 _ _) hnil hjdead hroom (by
          simp only [List.size_toArray, List.length_append, List.length_take, List.length_drop, Array.length_toList]
          simp only [List.length_map, List.length_range] at hfit ⊢
          omega) hhl hhd h9 hsrc (fun k hk => by
            rw [getD_splice _ _ _ _ (by simpa using hfit), if_neg (by omega)]
            simp [List.getD, Array.getD_eq_getD_getElem?]) (fun k hk => by
            rw [getD_splice _ _ _ _ (by simpa using hfit), if_pos ⟨by omega, by simp; omega⟩]
            rw [show n * i.size + k - n * i.size = k by omega]
            have := news_getD (vals := vals) hk
            simpa [List.getD, Array.getD_eq_getD_getElem?] using this)
        exact hK _ _ _ _ hr (by rw [dels_append]; exact hm') (own_self _)
    · refine hgrow q (fun k => c0.getD k undef) (some ⟨b, 0, none⟩) cap h4 (by omega) (fun _ => ⟨b, c0, tt, rfl, h6, ?_, rfl⟩) h9
      have := Nat.mul_le_mul_right i.size h7
      omega
theorem sound_app {t e : TypeId} {i : TypeInfo} {z : Value} {scal : Bool} {x y : Operand} (ht : P.underlying t = some (.slice e)) (hi : P.info? e = some i) (hz : i.zero = some z) (hzs : z.cells.size = i.size) :
    Sound P cx (.call { callee := .builtin .append, args := #[x, y], argTypes := #[t, t] }) (.app i.size i.bytes scal x y) := by
  intro det ι ow s a w d K hm h hfr o ho next Q hnx
  simp only [IOp.opds, List.map_cons, List.map_nil, res] at h
  have hx := eval_rep hm x
  have hy := eval_rep hm y
  have hd := hfr d (by simp [IOp.fresh])
  have hrun : ∀ v w', (Builtin.append_ #[t, t] o.type #[a.eval x, a.eval y]).run P w = .ok v w' → (execOp a.eval o).run P w = .ok (.value v) w' := fun v w' h => by
    simp [execOp, ho, resolve, invoke, builtin, h]
  unfold Oper.wp
  split at h
  · rename_i _ j j' esz' k heq
    simp only [List.cons.injEq, and_true] at heq
    obtain ⟨hxe, hye⟩ := heq
    split at h
    · rename_i nn e1 n g hl hob
      split at h
      · rename_i nn' e2 n' g' hob'
        simp only [Cnd.holds, Bool.and_eq_true, Bool.not_eq_true', bne_iff_ne, ne_eq, decide_eq_true_eq] at h
        obtain ⟨⟨⟨⟨⟨⟨h0, rfl, rfl, rfl⟩, hsc⟩, hjd⟩, hjd'⟩, hjj⟩, hp, h⟩ := h
        have hall := andP_all hp
        obtain ⟨hb1, hb2⟩ := hall _ List.mem_cons_self
        have hk : k ≤ n' := hall _ (List.mem_cons_of_mem _ List.mem_cons_self)
        have hone : allOne i.size (n' - k) fun a b => g' (a + k) b := hall _ (List.mem_cons_of_mem _ (List.mem_cons_of_mem _ List.mem_cons_self))
        have hhl : ∀ x ∈ hl, x.1 < n := fun x hx => hall _ (List.mem_cons_of_mem _ (List.mem_cons_of_mem _ (List.mem_cons_of_mem _ (List.mem_map.2 ⟨x, hx, rfl⟩))))
        have hhd : ∀ x ∈ hl, x.2.2 ≠ d := fun x hx e => by
          have := hd.2.1 j _ hob
          simp only [Ob.noid, List.all_eq_true] at this
          have := this x hx
          simp [e] at this
        rw [hxe] at hx
        rw [hye] at hy
        have hev : a.eval x = ι j := by generalize a.eval x = v at hx; cases hx; rfl
        have hev2 : a.eval y = viewV i.size k (ι j') := by generalize a.eval y = v at hy; cases hy; assumption
        obtain ⟨ow2, hm2, hs2⟩ := hm.split hd hob' hjd' hk h0 hone
        have hobs2 : ∀ t, ((s.setOb j' (.row .u nn' i.size n' (fun a b => if a < k then g' a b else .any) [])).setOb d (.row .u false i.size 0 (fun _ _ => .any) [])).obj t = if d = t then some (.row .u false i.size 0 (fun _ _ => .any) []) else if j' = t then some (.row .u nn' i.size n' (fun a b => if a < k then g' a b else .any) []) else s.obj t := fun t => by
          rw [St.obj_setOb, St.obj_setOb]
        have hd2 : ((s.setOb j' (.row .u nn' i.size n' (fun a b => if a < k then g' a b else .any) [])).setOb d (.row .u false i.size 0 (fun _ _ => .any) [])).noid d := by
          refine ⟨hd.1, fun t o ho => ?_, hd.2.2⟩
          rw [hobs2] at ho
          split at ho
          · cases ho; rfl
          · split at ho
            · cases ho; rfl
            · exact hd.2.1 t o ho
        have hob2 : ((s.setOb j' (.row .u nn' i.size n' (fun a b => if a < k then g' a b else .any) [])).setOb d (.row .u false i.size 0 (fun _ _ => .any) [])).obj j = some (.row .u nn i.size n g hl) := by
          rw [hobs2, if_neg fun e => hjd e.symm, if_neg fun e => hjj e.symm]; exact hob
        refine app_core (m := .u) (m' := .u) (dead := [d]) ht hi hz hzs ho hm2 hd2 hob2 hjd (by simpa using hjd) (fun h => (h rfl).elim) hhl hhd hb1 hb2 (by rw [if_neg hjd]; exact hev) (by rw [hev2]; exact hs2) fun v w' ι' ow' hr hm' hrep => ?_
        rw [hr, Oper.upon_value]
        refine hnx ι' ow' _ _ v w' h (hm'.same (fun t => ?_) fun t => ?_) hrep
        · rfl
        · simp only [St.upd, St.obj_setOb, St.obj_delOb, obj_dels, List.mem_append, List.mem_singleton]
          by_cases e1 : d = t
          · simp [e1, Mode.min]
          · have e1' : ¬ t = d := fun e => e1 e.symm
            by_cases e2 : j = t
            · simp [e1, e2]
            · have e2' : ¬ t = j := fun e => e2 e.symm
              simp [e1, e1', e2, e2']
      · exact h.elim
    · exact h.elim
  · rename_i s' x' hne heq
    simp only [List.cons.injEq, and_true] at heq
    obtain ⟨rfl, rfl⟩ := heq
    split at h
    · rename_i n' g' m' dead p hsrc0
      split at h
      · -- onto nothing
        rename_i fr hxe
        simp only [Cnd.holds, Bool.and_eq_true, decide_eq_true_eq, Bool.not_eq_true', List.contains_eq_mem, decide_eq_false_iff_not] at h
        obtain ⟨⟨h0, hdd⟩, hp, h⟩ := h
        have hall := andP_all hp
        obtain ⟨hb1, hb2⟩ := hall _ List.mem_cons_self
        have hp' : opt p := by
          cases p with
          | none => trivial
          | some q => exact hall q (List.mem_cons_of_mem _ (by simp))
        obtain ⟨pt, c, vals, hv, hnc, hcell, hone, qs, hdo, hsrc⟩ := src_spec hm h0 hy hsrc0 hp'
        rw [hxe] at hx
        have hx := rep_v hx
        rw [hx, hv] at hrun
        by_cases hn : n' = 0
        · subst hn
          rw [hrun _ _ (run_append_nothing t o.type e i ht hi none 0 0 pt c (Nat.le_refl _)), Oper.upon_value]
          obtain ⟨ow', hm'⟩ := hm.emptyRow hd dead (p := none) (m := m') (nn := false) (esz := i.size) (g := g') (hl := []) (fun _ => rfl) (fun ad h => by cases h)
          exact hnx _ ow' _ _ _ _ h (by rw [upd_delU]; exact hm') (own_self _)
        · obtain ⟨ad, rfl, hc2⟩ := hcell (by omega)
          have hap := run_append_nil (P := P) w t o.type e i z ht hi hz ad n' c ((List.range (n' * i.size)).map vals) (by simp) (fun j v hj => by
            obtain ⟨h1, rfl⟩ := news_get hj
            exact hc2 j h1) (by omega) hb2 (by omega)
          rw [hrun _ _ hap, Oper.upon_value]
          have hm' := hm.grown (tt := e) (arr := ((List.range (n' * i.size)).map vals).toArray ++ Builtin.zeroCells z.cells (grownCap w n' 0 e - n')) (cap := grownCap w n' 0 e) (o0 := none) (j := d) (n := 0) (m := .u) (nn := false) (g := fun _ _ => .any) (hl := []) (q := fun _ => none) (olds := fun _ => undef) hd ((Grows.drew w).trans (Grows.alloc _ _)) (Nat.le_refl _) (drew_alloc w _) (by cases m' <;> simp [Mode.le]) (Mode.le_refl m') (fun _ => rfl) hdd (by rw [Nat.zero_add]; exact grownCap_ge w n' 0 e) (by
              have := grownCap_ge w n' 0 e
              simp only [Array.size_append, List.size_toArray, List.length_map, List.length_range, size_zeroCells, hzs, ← Nat.add_mul]
              exact Nat.mul_le_mul_right _ (by omega)) (fun x hx => by cases hx) (fun x hx => by cases hx) (fun p r hp => by omega) hsrc (fun k hk => by omega) (fun k hk => by
              rw [Nat.zero_mul, Nat.zero_add, getD_append]
              rw [if_pos (by simpa using hk)]
              exact news_getD hk)
          refine hnx _ _ _ _ _ _ h (hm'.same (fun t => ?_) fun k => ?_) ?_
          · rw [get_upd]
            show s.get t = St.get (St.setOb _ _ _) t
            have e1 : (St.setOb (s.dels (dead ++ [d])) d (.row m' false i.size (0 + n') (fun a b => if a < 0 then PV.any else g' (a - 0) b) [])).env = s.env := env_dels _ s
            simp only [St.get, e1]
          · rw [upd_delU]
            simp only [St.upd, St.obj_setOb, obj_dels, List.mem_append, List.mem_singleton, Nat.zero_add, Nat.not_lt_zero, if_false, Nat.sub_zero]
            by_cases hk : d = k
            · simp [hk]
            · have : ¬ k = d := fun e => hk e.symm
              simp [hk, this]
          · have e1 : (Value.slice (some ⟨w.heap.size, 0, none⟩) (0 + n') (grownCap w n' 0 e)) = .slice (some ⟨w.heap.size, 0, none⟩) n' (grownCap w n' 0 e) := by rw [Nat.zero_add]
            rw [← e1]
            exact own_self _
      · rename_i j hxe
        split at h
        · rename_i m nn e' n g hl hob
          simp only [Cnd.holds, Bool.and_eq_true, Bool.not_eq_true', List.contains_eq_mem, decide_eq_false_iff_not, bne_iff_ne, ne_eq] at h
          obtain ⟨⟨⟨⟨⟨hA, hdd⟩, hjdead⟩, hjd⟩, hM⟩, hp, h⟩ := h
          obtain ⟨h0, rfl⟩ := of_decide_eq_true hA
          have hall := andP_all hp
          obtain ⟨hb1, hb2⟩ := hall _ List.mem_cons_self
          have hp' : opt p := by
            cases p with
            | none => trivial
            | some q => exact hall q (List.mem_cons_of_mem _ (List.mem_append_left _ (by simp)))
          have hhl : ∀ x ∈ hl, x.1 < n := fun x hx => hall _ (List.mem_cons_of_mem _ (List.mem_append_right _ (List.mem_map.2 ⟨x, hx, rfl⟩)))
          have hnil : m.min m' ≠ .u → hl = [] := fun hne => by
            cases hmm : m.min m' with
            | u => exact (hne hmm).elim
            | f => rw [hmm] at hM; simpa using hM
            | z => rw [hmm] at hM; simpa using hM
          have hhd : ∀ x ∈ hl, x.2.2 ≠ d := fun x hx e => by
            have := hd.2.1 j _ hob
            simp only [Ob.noid, List.all_eq_true] at this
            have := this x hx
            simp [e] at this
          have hsrc1 := src_spec hm h0 hy hsrc0 hp'
          rw [hxe] at hx
          generalize hev : a.eval x = xv at hx
          cases hx with
          | own _ =>
            have hst : ∀ {ι2 : Nat → Value} {ow2 : Nat → Option Nat} {w2 : World} {r : Ob}, Models cx ι2 ow2 ((s.dels (dead ++ [j])).setOb d r) a w2 → Models cx ι2 ow2 (s.upd (delU dead ++ [(j, none), (d, some r)])) a w2 := fun {ι2 ow2 w2 r} hm2 => by
              rw [upd_delU]
              rw [dels_append] at hm2
              exact hm2
            refine app_core ht hi hz hzs ho hm hd hob hjd hjdead hnil hhl hhd hb1 hb2 hev hsrc1 fun v w' ι' ow' hr hm' hrep => ?_
            rw [hr, Oper.upon_value]
            exact hnx _ _ _ _ _ _ h (hst hm') hrep
        · exact h.elim
      · exact h.elim
    · exact h.elim
  · exact h.elim
end
end Go.Gw
namespace Go.Gw
open Go
set_option linter.unusedVariables false
set_option linter.unusedSimpArgs false
theorem foldl_push (ns : List Int) : ∀ (b : ByteArray), ns.foldl (fun r n => r.push (UInt8.ofNat n.toNat)) b = ⟨(b.data.toList ++ ns.map fun n => UInt8.ofNat n.toNat).toArray⟩ := by
  induction ns with
  | nil => intro b; simp
  | cons n ns ih =>
    intro b
    simp only [List.foldl_cons, ih, List.map_cons]
    congr 1
    have : (b.push (UInt8.ofNat n.toNat)).data.toList = b.data.toList ++ [UInt8.ofNat n.toNat] := by
      simp [ByteArray.push]
    rw [this]
    simp
def intOf : PV → Int
  | .v (.int _ m) => m
  | _ => 0
section
variable {P : Program} {cx : Cx} {ι : Nat → Value} {ow : Nat → Option Nat} {s : St} {a : Act} {w : World} {d : Nat}
theorem run_b2s (pt : Option Addr) (n c : Nat) (g : Nat → Nat → PV) (vals : Nat → Value) (hg : ∀ i, i < n → ∃ m : Int, g i 0 = .v (.int .u8 m)) (hv : ∀ i, i < n → g i 0 = .v (vals i))
    (hc : 0 < n → ∃ ad, pt = some ad ∧ ∀ k, k < n → w.cell? (ad.add k) = some (vals k)) : (Conv.bytesToString (.slice pt n c)).run P w = .ok (.string (bytesOf n g)) w := by
  have hvals : ∀ i, i < n → vals i = .int .u8 (intOf (g i 0)) := fun i hi => by
    obtain ⟨m, hm⟩ := hg i hi
    have := hv i hi
    rw [hm] at this ⊢
    injection this with h
    exact h.symm
  have hfin : ∀ ad, (loadCells ad n).run P w = .ok (((List.range n).map fun i => intOf (g i 0)).map (Value.int .u8)).toArray w → (Conv.bytesToString (.slice (some ad) n c)).run P w = .ok (.string (bytesOf n g)) w := fun ad h => by
    rw [run_bytesToString w ad n c _ h, foldl_push]
    congr 2
    unfold bytesOf
    congr 1
    simp only [List.map_map]
    show (([] : List UInt8) ++ _).toArray = _
    rw [List.nil_append]
    congr 1
    refine List.map_congr_left fun i hi => ?_
    obtain ⟨m, hm⟩ := hg i (List.mem_range.1 hi)
    simp [hm, intOf, byteOf]
  cases pt with
  | none =>
    have hn : n = 0 := by
      rcases Nat.eq_zero_or_pos n with h | h
      · exact h
      · obtain ⟨ad, h1, _⟩ := hc h; cases h1
    subst hn
    have e : bytesOf 0 g = ByteArray.empty := rfl
    simp [Conv.bytesToString, e]
  | some ad =>
    refine hfin ad ?_
    have := run_loadCells (P := P) w ad n vals (fun j hj => by
      obtain ⟨ad', h1, h2⟩ := hc (by omega)
      cases h1
      exact h2 j hj)
    rw [this]
    congr 2
    simp only [List.map_map]
    exact List.map_congr_left fun i hi => hvals i (List.mem_range.1 hi)
theorem sound_b2s {t u e : TypeId} {x : Operand} (ht : P.underlying t = some (.slice e)) (he : P.underlying e = some (.int .u8)) (hu : P.underlying u = some .string) : Sound P cx (.convert t u x) (.b2s x) :=
  .value fun _ ι ow s a w d K hm h => by
    simp only [IOp.opds, List.map_cons, List.map_nil, res] at h
    have h1 := eval_rep hm x
    have fin : ∀ (pt : Option Addr) (n c : Nat) (g : Nat → Nat → PV) (vals : Nat → Value), a.eval x = .slice pt n c → (∀ i, i < n → ∃ m : Int, g i 0 = .v (.int .u8 m)) → (∀ i, i < n → g i 0 = .v (vals i)) →
        (0 < n → ∃ ad, pt = some ad ∧ ∀ k, k < n → w.cell? (ad.add k) = some (vals k)) → ∀ o : Oper, o.op = .convert t u x → (execOp a.eval o).run P w = .ok (.value (.string (bytesOf n g))) w := by
      intro pt n c g vals hev hg hv hc o ho
      simp [execOp, ho, hev, run_convert_bytes_string w t u e pt n c ht he hu, run_b2s pt n c g vals hg hv hc]
    split at h
    · rename_i fr nn e' n g hvs
      simp only [List.cons.injEq, and_true] at hvs
      simp only [Cnd.holds, decide_eq_true_eq] at h
      obtain ⟨rfl, hp, h⟩ := h
      have hp : ∀ i, i < n → ∃ m : Int, g i 0 = .v (.int .u8 m) := hp
      rw [hvs, rep_p] at h1
      generalize hev : a.eval x = y at h1
      cases h1 with
      | nil => exact ⟨_, _, h, rep_mkv _, fin none 0 0 g (fun _ => undef) hev hp (fun i hi => by omega) (fun h => by omega)⟩
      | emp _ _ _ ad cap => exact ⟨_, _, h, rep_mkv _, fin (some ad) 0 cap g (fun _ => undef) hev hp (fun i hi => by omega) (fun h => by omega)⟩
      | sl _ _ _ _ b off cap val hc hr hz hcap =>
        refine ⟨_, _, h, rep_mkv _, fin _ n cap g (fun i => val i 0) hev hp (fun i hi => ?_) (fun _ => ⟨_, rfl, fun k hk => ?_⟩)⟩
        · obtain ⟨m, hm'⟩ := hp i hi
          have := hr i 0 hi (by omega)
          rw [hm'] at this ⊢
          generalize val i 0 = yy at this
          cases this; rfl
        · rw [addr_add]
          have := hc k 0 hk (by omega)
          simpa using this
    · rename_i j hvs
      simp only [List.cons.injEq, and_true] at hvs
      split at h
      · rename_i m nn e' n g hl hob
        simp only [Cnd.holds, Bool.and_eq_true, decide_eq_true_eq, List.isEmpty_iff] at h
        obtain ⟨⟨rfl, rfl⟩, hp, h⟩ := h
        have hp : ∀ i, i < n → ∃ m : Int, g i 0 = .v (.int .u8 m) := hp
        rw [hvs] at h1
        generalize hev : a.eval x = y at h1
        cases h1 with
        | own _ =>
          rcases hm.obs j _ hob with ⟨rfl, ⟨_, h4⟩ | ⟨b, off, h4⟩⟩ | ⟨b, cap, c, tt, q, h4, h5, h6, h7, h8, hq, h9⟩
          · exact ⟨_, _, h, rep_mkv _, fin none 0 0 g (fun _ => undef) (hev.trans h4) hp (fun i hi => by omega) (fun h => by omega)⟩
          · exact ⟨_, _, h, rep_mkv _, fin _ 0 0 g (fun _ => undef) (hev.trans h4) hp (fun i hi => by omega) (fun h => by omega)⟩
          · refine ⟨_, _, h, rep_mkv _, fin _ n cap g (fun i => c.getD i undef) (hev.trans h4) hp (fun i hi => ?_) (fun _ => ⟨_, rfl, fun k hk => ?_⟩)⟩
            · obtain ⟨m', hm'⟩ := hp i hi
              have := h9 i 0 hi (by omega)
              simp only [Nat.mul_one, Nat.add_zero] at this
              rw [hm'] at this ⊢
              generalize c.getD i undef = yy at this
              cases m with
              | z => cases this; rfl
              | f => cases this; rfl
              | u => simp only [EltOk, hole] at this; cases this; rfl
            · rw [addr_add, Nat.zero_add]
              exact cell_of_row h6 (by omega)
      · exact h.elim
    · exact h.elim
theorem runMap {b : Nat} {es : Array MapEntry} {clock : Nat} (h : w.heap[b]? = some (.map es clock)) : (getObj b).run P w = .ok (.map es clock) w := by
  simp [getObj, Sem.run, h]
theorem runSetMap {b : Nat} {es : Array MapEntry} {clock : Nat} (o' : Obj) (h : w.heap[b]? = some (.map es clock)) : (setObj b o').run P w = .ok () { w with heap := w.heap.setIfInBounds b o' } := by
  simp [setObj, Sem.run, h]
theorem findNow_spec {kind : IntKind} {k : Int} : ∀ (es : List MapEntry) (i : Nat), (∀ e ∈ es, ∃ k' : Int, e.key = .int .i64 k') →
    (∃ j e, es[j]? = some e ∧ e.key = .int .i64 k ∧ Instr.findNow (.int kind) (.int .i64 k) es i = some (some (i + j, e.val))) ∨
    ((∀ e ∈ es, e.key ≠ .int .i64 k) ∧ Instr.findNow (.int kind) (.int .i64 k) es i = some none)
  | [], i, _ => .inr ⟨fun e h => (by cases h), rfl⟩
  | e :: es, i, h => by
    obtain ⟨k', hk'⟩ := h e List.mem_cons_self
    by_cases hkk : k = k'
    · subst hkk
      refine .inl ⟨0, e, rfl, hk', ?_⟩
      simp [Instr.findNow, hk', Instr.sameNow]
    · have hs : Instr.findNow (.int kind) (.int .i64 k) (e :: es) i = Instr.findNow (.int kind) (.int .i64 k) es (i + 1) := by
        have : (k == k') = false := by simp [hkk]
        simp [Instr.findNow, hk', Instr.sameNow, this]
      rw [hs]
      rcases findNow_spec (kind := kind) (k := k) es (i + 1) (fun e he => h e (List.mem_cons_of_mem _ he)) with ⟨j, e', h1, h2, h3⟩ | ⟨h1, h2⟩
      · exact .inl ⟨j + 1, e', by simpa using h1, h2, by rw [h3, show i + 1 + j = i + (j + 1) by omega]⟩
      · refine .inr ⟨fun e' he' => ?_, h2⟩
        rcases List.mem_cons.1 he' with rfl | he'
        · rw [hk']; intro e; cases e; exact hkk rfl
        · exact h1 e' he'
theorem run_checkKey {kt : TypeId} {kind : IntKind} (hk : P.underlying kt = some (.int kind)) (b : Bool) (k : Int) : (Instr.checkKey b 10000 kt (.int .i64 k)).run P w = .ok () w := by
  have : ∀ n, (Instr.checkKey b (n + 1) kt (.int .i64 k)).run P w = .ok () w := fun n => by
    simp [Instr.checkKey, run_underlying hk]
  exact this 9999
theorem sound_mkM {t : TypeId} : Sound P cx (.makeMap t none) .mkM := by
  intro det ι ow s a w d K hm h hfr o ho next Q hnx
  simp only [IOp.opds, List.map_nil, res, Cnd.holds] at h
  have hd := hfr d (by simp [IOp.fresh])
  unfold Oper.wp
  have : (execOp a.eval o).run P w = .ok (.value (.map (some w.heap.size))) (w.alloc (.map #[] 0)) := by
    simp only [execOp, ho]
    rfl
  rw [this, Oper.upon_value]
  have hm' := hm.newObj (dead := []) (M := .u) hd (Grows.alloc w (.map #[] 0)) (Nat.le_refl _) (.map (some w.heap.size)) (.map (fun _ => none) 0) (fun hF hZ => by
    refine ⟨w.heap.size, #[], 0, rfl, by simp [owNew], (by show (w.heap.push _)[w.heap.size]? = _; simp), ⟨rfl, fun e h => by simp at h, fun k v h => (by cases h), by simp⟩⟩)
  exact hnx _ _ _ _ _ _ h.2.2 (hm'.same (fun t => rfl) fun i => rfl) (own_self _)
theorem sound_lookM {t kt et : TypeId} {kind : IntKind} {i : TypeInfo} {z : Value} {x y : Operand} (ht : P.underlying t = some (.map kt et)) (hk : P.underlying kt = some (.int kind)) (hi : P.info? et = some i) (hz : i.zero = some z) :
    Sound P cx (.lookup t x y false) (.lookM z x y) :=
  .value fun _ ι ow s a w d K hm h => by
    simp only [IOp.opds, List.map_cons, List.map_nil, res] at h
    have hx := eval_rep hm x
    have hy := eval_rep hm y
    split at h
    · rename_i j fr k hvs
      simp only [List.cons.injEq, and_true] at hvs
      split at h
      · rename_i f n hob
        rw [hvs.1] at hx
        rw [hvs.2] at hy
        have hy := rep_v hy
        generalize hev : a.eval x = xv at hx
        cases hx with
        | own _ =>
          obtain ⟨b, es, clock, h1, h2, h3, h4, h5, h6, h7⟩ := hm.obs j _ hob
          have hK : ∃ c, K c [] ∧ c = .p true (.v ((f k).getD z)) := by
            split at h
            · refine ⟨_, h.2.2, ?_⟩
              have e := h.2.1
              simp only [opt] at e
              rw [← e]
            · refine ⟨_, h.2.2, ?_⟩
              have e := h.2.1
              simp only [opt] at e
              rw [← e]
            · exact ⟨_, h.2.2, rfl⟩
          obtain ⟨_, hK, rfl⟩ := hK
          refine ⟨_, (f k).getD z, hK, rep_mkv _, fun o ho => ?_⟩
          have hfind : ∃ r : Option (Nat × Value), Instr.findNow (.int kind) (.int .i64 k) es.toList 0 = some r ∧ (f k).getD z = (match r with | some (_, v) => v | none => z) := by
            rcases findNow_spec (kind := kind) (k := k) es.toList 0 (fun e he => by obtain ⟨k', hk', _⟩ := h5 e he; exact ⟨k', hk'⟩) with ⟨jj, e, g1, g2, g3⟩ | ⟨g1, g2⟩
            · refine ⟨_, g3, ?_⟩
              obtain ⟨k', g4, g5, _⟩ := h5 e (List.mem_of_getElem? g1)
              rw [g2] at g4
              cases g4
              rw [g5]; rfl
            · refine ⟨_, g2, ?_⟩
              cases hf : f k with
              | none => rfl
              | some v =>
                obtain ⟨e, he, hke⟩ := h6 k v hf
                exact (g1 e he hke).elim
          obtain ⟨r, hr1, hr2⟩ := hfind
          rw [hr2]
          cases r with
          | none =>
            simp [execOp, ho, hev, h1, hy, Instr.lookup, run_underlying ht, runMap h3, run_checkKey hk, Instr.findKey, run_underlying hk, hr1, zeroValue, typeInfo, hi, hz]
          | some r =>
            simp [execOp, ho, hev, h1, hy, Instr.lookup, run_underlying ht, runMap h3, run_checkKey hk, Instr.findKey, run_underlying hk, hr1]
      · exact h.elim
    · exact h.elim
theorem sound_lenM {t kt et : TypeId} {x : Operand} (ht : P.underlying t = some (.map kt et)) : Sound P cx (.call { callee := .builtin .len, args := #[x], argTypes := #[t] }) (.lenM x) :=
  .value fun _ ι ow s a w d K hm h => by
    simp only [IOp.opds, List.map_cons, List.map_nil, res] at h
    have hx := eval_rep hm x
    split at h
    · rename_i j hvs
      simp only [List.cons.injEq, and_true] at hvs
      split at h
      · rename_i f n hob
        rw [hvs] at hx
        generalize hev : a.eval x = xv at hx
        cases hx with
        | own _ =>
          obtain ⟨b, es, clock, h1, h2, h3, h4, _⟩ := hm.obs j _ hob
          refine ⟨_, _, h.2.2, rep_mkv _, fun o ho => ?_⟩
          simp [execOp, ho, resolve, invoke, builtin, Builtin.len_, hev, h1, run_underlying ht, runMap h3, goInt, h4]
      · exact h.elim
    · exact h.elim
theorem mapOk_push {es : Array MapEntry} {clock n : Nat} {f : Int → Option Value} {k : Int} {x : Value} (h : MapOk es clock f n) (hk : f k = none) :
    MapOk (es.push { key := .int .i64 k, val := x, born := clock }) (clock + 1) (fun i => if i = k then some x else f i) (n + 1) := by
  obtain ⟨h1, h2, h3, h4⟩ := h
  have hno : ∀ e ∈ es.toList, e.key ≠ .int .i64 k := fun e he hke => by
    obtain ⟨k', g1, g2, _⟩ := h2 e he
    rw [hke] at g1
    cases g1
    rw [hk] at g2
    cases g2
  refine ⟨by simp [h1], fun e he => ?_, fun k' v hv => ?_, ?_⟩
  · simp only [Array.toList_push, List.mem_append, List.mem_singleton] at he
    rcases he with he | rfl
    · obtain ⟨k', g1, g2, g3⟩ := h2 e he
      refine ⟨k', g1, ?_, by omega⟩
      have : k' ≠ k := fun e' => by subst e'; rw [hk] at g2; cases g2
      simp [this, g2]
    · exact ⟨k, rfl, by simp, Nat.lt_succ_self _⟩
  · simp only at hv
    split at hv
    · rename_i e; subst e
      exact ⟨_, by simp; exact .inr rfl, rfl⟩
    · obtain ⟨e, he, hke⟩ := h3 k' v hv
      exact ⟨e, by simp only [Array.toList_push, List.mem_append]; exact .inl he, hke⟩
  · simp only [Array.toList_push, List.map_append, List.map_cons, List.map_nil]
    rw [List.nodup_append]
    refine ⟨h4, by simp, fun a ha b hb e => ?_⟩
    simp only [List.mem_singleton] at hb
    obtain ⟨e1, he1, rfl⟩ := List.mem_map.1 ha
    obtain ⟨k', g1, g2, _⟩ := h2 e1 he1
    rw [g1] at e
    simp only [keyInt] at e
    subst hb
    subst e
    rw [hk] at g2
    cases g2
theorem mapOk_set {es : Array MapEntry} {clock n : Nat} {f : Int → Option Value} {k : Int} {x v0 : Value} {i : Nat} {e0 : MapEntry} (h : MapOk es clock f n) (hk : f k = some v0) (hi : es.toList[i]? = some e0) (hke : e0.key = .int .i64 k) :
    MapOk (es.modify i fun e => { e with key := .int .i64 k, val := x }) clock (fun j => if j = k then some x else f j) n := by
  obtain ⟨h1, h2, h3, h4⟩ := h
  have hil : i < es.size := by have := (List.getElem?_eq_some_iff.1 hi).1; simpa using this
  have hget : ∀ (j : Nat) (e : MapEntry), (es.modify i fun e => { e with key := .int .i64 k, val := x }).toList[j]? = some e → ∃ e1, es.toList[j]? = some e1 ∧ e = if j = i then { e1 with key := .int .i64 k, val := x } else e1 := by
    intro j e hj
    simp only [Array.getElem?_toList, Array.getElem?_modify] at hj
    split at hj
    · rename_i hij
      simp only [Option.map_eq_some_iff] at hj
      obtain ⟨e1, g1, rfl⟩ := hj
      exact ⟨e1, by simpa using g1, by simp [hij.symm]⟩
    · rename_i hij
      exact ⟨e, by simpa using hj, by rw [if_neg (fun h => hij h.symm)]⟩
  have hkeyi : ∀ (j : Nat) (e1 : MapEntry), es.toList[j]? = some e1 → e1.key = .int .i64 k → j = i := by
    intro j e1 hj hk1
    have g1 : (es.toList.map fun e => keyInt e.key)[j]? = some k := by simp only [List.getElem?_map, hj, Option.map_some, hk1, keyInt]
    have g2 : (es.toList.map fun e => keyInt e.key)[i]? = some k := by simp only [List.getElem?_map, hi, Option.map_some, hke, keyInt]
    obtain ⟨l1, m1⟩ := List.getElem?_eq_some_iff.1 g1
    obtain ⟨l2, m2⟩ := List.getElem?_eq_some_iff.1 g2
    have hp := List.pairwise_iff_getElem.1 h4
    rcases Nat.lt_trichotomy j i with h | h | h
    · exact absurd (m1.trans m2.symm) (hp j i l1 l2 h)
    · exact h
    · exact absurd (m2.trans m1.symm) (hp i j l2 l1 h)
  refine ⟨by simp [h1], fun e he => ?_, fun k' v hv => ?_, ?_⟩
  · obtain ⟨j, hj⟩ := List.mem_iff_getElem?.1 he
    obtain ⟨e1, g1, rfl⟩ := hget j e hj
    obtain ⟨k', g2, g3, g4⟩ := h2 e1 (List.mem_of_getElem? g1)
    by_cases hji : j = i
    · rw [if_pos hji]
      exact ⟨k, rfl, by simp, g4⟩
    · rw [if_neg hji]
      refine ⟨k', g2, ?_, g4⟩
      have : k' ≠ k := fun e => hji (hkeyi j e1 g1 (by rw [g2, e]))
      simp [this, g3]
  · have hmem : ∀ (j : Nat) (e1 : MapEntry), es.toList[j]? = some e1 → (if j = i then { e1 with key := .int .i64 k, val := x } else e1) ∈ (es.modify i fun e => { e with key := .int .i64 k, val := x }).toList := by
      intro j e1 hj
      refine List.mem_iff_getElem?.2 ⟨j, ?_⟩
      simp only [Array.getElem?_toList] at hj
      simp only [Array.getElem?_toList, Array.getElem?_modify, hj]
      by_cases hji : i = j
      · simp [hji]
      · have : ¬ j = i := fun h => hji h.symm
        simp [hji, this]
    simp only at hv
    split at hv
    · rename_i e; subst e
      exact ⟨_, hmem i e0 hi, by simp⟩
    · obtain ⟨e, he, hke'⟩ := h3 k' v hv
      obtain ⟨j, hj⟩ := List.mem_iff_getElem?.1 he
      refine ⟨_, hmem j e hj, ?_⟩
      by_cases hji : j = i
      · subst hji
        rw [hi] at hj
        cases hj
        rw [hke] at hke'
        cases hke'
        rename_i hne
        exact (hne rfl).elim
      · rw [if_neg hji]; exact hke'
  · have : ((es.modify i fun e => { e with key := .int .i64 k, val := x }).toList.map fun e => keyInt e.key) = (es.toList.map fun e => keyInt e.key) := by
      apply List.ext_getElem?
      intro j
      simp only [List.getElem?_map, Array.getElem?_toList, Array.getElem?_modify]
      by_cases hji : i = j
      · subst hji
        simp only [Array.getElem?_toList] at hi
        simp [hi, hke]
      · simp [hji]
    rw [this]
    exact h4
theorem sound_updM {t kt et : TypeId} {kind : IntKind} {x y z : Operand} (ht : P.underlying t = some (.map kt et)) (hk : P.underlying kt = some (.int kind)) : Sound P cx (.mapUpdate t x y z) (.updM x y z) := by
  intro det ι ow s a w d K hm h hfr o ho next Q hnx
  simp only [IOp.opds, List.map_cons, List.map_nil, res] at h
  have hx := eval_rep hm x
  have hy := eval_rep hm y
  have hz := eval_rep hm z
  split at h
  · rename_i j fr k fr' v hvs
    simp only [List.cons.injEq, and_true] at hvs
    split at h
    · rename_i f n hob
      rw [hvs.1] at hx
      rw [hvs.2.1] at hy
      rw [hvs.2.2] at hz
      have hy := rep_v hy
      have hz := rep_v hz
      generalize hev : a.eval x = xv at hx
      cases hx with
      | own _ =>
        obtain ⟨b, es, clock, h1, h0, h3, hok⟩ := hm.obs j _ hob
        obtain ⟨h4, h5, h6, h7⟩ := hok
        simp only [Cnd.holds] at h
        have fin : ∀ (es' : Array MapEntry) (clock' : Nat), MapOk es' clock' (fun i => if i = k then some v else f i) (match f k with | some _ => n | none => n + 1) →
            (execOp a.eval o).run P w = .ok .skip { w with heap := w.heap.setIfInBounds b (.map es' clock') } → o.upon P a next Q ((execOp a.eval o).run P w) := by
          intro es' clock' hok' hrun
          rw [hrun, Oper.upon_skip]
          have hbl := heap_lt h3
          have hm' := hm.putRow (i' := j) (M := .u) hob h0 (.inl rfl) (dead := []) (by simp) (w' := { w with heap := w.heap.setIfInBounds b (.map es' clock') }) (ι j) (fun _ => rfl) rfl rfl rfl (Nat.le_refl _) (by simp) (fun b' _ hne => (Array.getElem?_setIfInBounds_ne (fun e => hne e.symm)))
            (.map (fun i => if i = k then some v else f i) (match f k with | some _ => n | none => n + 1)) (fun _ _ _ => by
            refine ⟨b, es', clock', h1, by simp [owPut, h0], by simp [Array.getElem?_setIfInBounds, hbl], hok'⟩)
          refine hnx _ _ _ _ _ _ h.2.2 (hm'.same (fun t => rfl) fun i => ?_) (rep_mkv _)
          simp only [St.upd, St.obj_setOb, St.obj_delOb, St.dels]
          split <;> rfl
        unfold Oper.wp
        rcases findNow_spec (kind := kind) (k := k) es.toList 0 (fun e he => by obtain ⟨k', hk', _⟩ := h5 e he; exact ⟨k', hk'⟩) with ⟨jj, e, g1, g2, g3⟩ | ⟨g1, g2⟩
        · obtain ⟨k', g4, g5, g6⟩ := h5 e (List.mem_of_getElem? g1)
          rw [g2] at g4
          cases g4
          refine fin (es.modify jj fun e => { e with key := .int .i64 k, val := v }) clock (by rw [g5]; exact mapOk_set ⟨h4, h5, h6, h7⟩ g5 g1 g2) ?_
          have hes : es[jj]? = some e := by simpa using g1
          have hstay : (Instr.keyThatStays e.key (.int .i64 k)).run P w = .ok (.int .i64 k) w := by
            rw [g2]
            have : Instr.sameBits 10000 (.int .i64 k) (.int .i64 k) = true := by simp [Instr.sameBits]
            simp [Instr.keyThatStays, this]
          rw [Nat.zero_add] at g3
          simp [execOp, ho, hev, h1, hy, hz, Instr.mapUpdate, run_underlying ht, runMap h3, run_checkKey hk, Instr.findKey, run_underlying hk, g3, hes, hstay, runSetMap _ h3]
        · have hfk : f k = none := by
            cases hf : f k with
            | none => rfl
            | some v' =>
              obtain ⟨e, he, hke⟩ := h6 k v' hf
              exact (g1 e he hke).elim
          refine fin (es.push { key := .int .i64 k, val := v, born := clock }) (clock + 1) (by rw [hfk]; exact mapOk_push ⟨h4, h5, h6, h7⟩ hfk) ?_
          simp [execOp, ho, hev, h1, hy, hz, Instr.mapUpdate, run_underlying ht, runMap h3, run_checkKey hk, Instr.findKey, run_underlying hk, g2, runSetMap _ h3]
    · exact h.elim
  · exact h.elim
end
def fieldKs (P : Program) : List Field → Nat → Option (List Bool)
  | [], _ => some []
  | f :: fs, o => if f.name ≠ "_" ∧ f.offset = o then match P.underlying f.type with
      | some (.int _) => (fieldKs P fs (o + 1)).map (true :: ·)
      | some .bool => (fieldKs P fs (o + 1)).map (false :: ·)
      | _ => none
    else none
section
variable {P : Program} {cx : Cx} {ι : Nat → Value} {w : World}
theorem run_part1 {t : TypeId} {td : TypeDesc} (ht : P.underlying t = some td) (ha : aggD td = false) {xs : Array Value} {off : Nat} {v : Value} (hx : xs[off]? = some v) : (part t xs off).run P w = .ok v w := by
  simp [part, run_agg ht, ha, hx]
theorem run_eqFields {F Z : Nat → Prop} {d : Nat} {xs ys : Array Value} : ∀ (fs : List Field) (o : Nat) (ks : List Bool) (cs ds : List AV) (r : Bool), fieldKs P fs o = some ks → eqCells ks cs ds = some r →
    o + cs.length ≤ xs.size → o + ds.length ≤ ys.size → (∀ j c, cs[j]? = some c → RepA F Z ι w c (xs.getD (o + j) undef)) → (∀ j c, ds[j]? = some c → RepA F Z ι w c (ys.getD (o + j) undef)) →
    (Op.eqFields (d + 1) xs ys fs).run P w = .ok r w := by
  intro fs
  induction fs with
  | nil =>
    intro o ks cs ds r hk hr hx hy h1 h2
    simp only [fieldKs, Option.some.injEq] at hk
    subst hk
    cases cs with
    | nil =>
      cases ds with
      | nil => simp only [eqCells, Option.some.injEq] at hr; subst hr; simp [Op.eqFields]
      | cons c ds => simp [eqCells] at hr
    | cons c cs => simp [eqCells] at hr
  | cons f fs ih =>
    intro o ks cs ds r hk hr hx hy h1 h2
    simp only [fieldKs] at hk
    split at hk
    · rename_i hf
      obtain ⟨hf1, hf2⟩ := hf
      subst hf2
      have step : ∀ {td : TypeDesc} {a b : Value} {q s : Bool} {ks' : List Bool} {cs' ds' : List AV} {c c' : AV}, P.underlying f.type = some td → aggD td = false → fieldKs P fs (f.offset + 1) = some ks' → cs = c :: cs' → ds = c' :: ds' → eqCells ks' cs' ds' = some s →
          xs.getD f.offset undef = a → ys.getD f.offset undef = b → (Op.equalIn (d + 1) f.type a b).run P w = .ok q w → (Op.eqFields (d + 1) xs ys (f :: fs)).run P w = .ok (q && s) w := by
        intro td a b q s ks' cs' ds' c c' htd hag hks hcs hds hs ha hb hq
        subst hcs
        subst hds
        have hlx : f.offset < xs.size := by simp only [List.length_cons] at hx; omega
        have hly : f.offset < ys.size := by simp only [List.length_cons] at hy; omega
        have ex : xs[f.offset]? = some a := by rw [← ha, Array.getD_eq_getD_getElem?, Array.getElem?_eq_getElem hlx]; rfl
        have ey : ys[f.offset]? = some b := by rw [← hb, Array.getD_eq_getD_getElem?, Array.getElem?_eq_getElem hly]; rfl
        have := ih (f.offset + 1) ks' cs' ds' s hks hs (by simp only [List.length_cons] at hx; omega) (by simp only [List.length_cons] at hy; omega) (fun j c hj => by
          have := h1 (j + 1) c (by simpa using hj)
          rwa [show f.offset + (j + 1) = f.offset + 1 + j by omega] at this) (fun j c hj => by
          have := h2 (j + 1) c (by simpa using hj)
          rwa [show f.offset + (j + 1) = f.offset + 1 + j by omega] at this)
        simp only [Op.eqFields, hf1, ne_eq, not_false_eq_true, if_true, Sem.run_bind, run_part1 htd hag ex, run_part1 htd hag ey, hq, Result.andThen_ok]
        cases q with
        | true => simpa using this
        | false => simp
      split at hk
      · rename_i k0 htd
        simp only [Option.map_eq_some_iff] at hk
        obtain ⟨ks', hks, rfl⟩ := hk
        unfold eqCells at hr
        split at hr
        · rename_i heq; cases heq
        · rename_i fr k a cs' fr' k' b ds' heq
          simp only [List.cons.injEq, true_and] at heq
          subst heq
          split at hr
          · rename_i hkk
            have hkk := of_decide_eq_true hkk
            subst hkk
            split at hr
            · rename_i s hs
              simp only [Option.some.injEq] at hr
              subst hr
              have ea := rep_v (h1 0 _ rfl)
              have eb := rep_v (h2 0 _ rfl)
              exact step htd rfl hks rfl rfl hs ea eb (run_equalIn_int w d f.type k k0 a b htd)
            · cases hr
          · cases hr
        · rename_i heq; cases heq
        · cases hr
      · rename_i htd
        simp only [Option.map_eq_some_iff] at hk
        obtain ⟨ks', hks, rfl⟩ := hk
        unfold eqCells at hr
        split at hr
        · rename_i heq; cases heq
        · rename_i heq; cases heq
        · rename_i fr a cs' fr' b ds' heq
          simp only [List.cons.injEq, true_and] at heq
          subst heq
          split at hr
          · rename_i s hs
            simp only [Option.some.injEq] at hr
            subst hr
            have ea := rep_v (h1 0 _ rfl)
            have eb := rep_v (h2 0 _ rfl)
            exact step htd rfl hks rfl rfl hs ea eb (run_equalIn_bool' w d f.type a b htd)
          · cases hr
        · cases hr
      · cases hk
    · cases hk
theorem sound_eqA {neq : Bool} {ks : List Bool} {t u : TypeId} {x y : Operand} (ht : P.underlying t = some (.struct (P.fieldsOf t))) (hp : P.stoodInHeld t = false) (hm0 : P.eqGuardType P.depth t = false) (hk : fieldKs P (P.fieldsOf t).toList 0 = some ks) :
    Sound P cx (.binOp (if neq then .neq else .eql) t x y u) (.eqA neq ks x y) :=
  .value fun _ ι ow s a w d K hm h => by
    simp only [IOp.opds, List.map_cons, List.map_nil, res] at h
    split at h
    · rename_i cs ds hvs
      simp only [List.cons.injEq, and_true] at hvs
      obtain ⟨hx, hy⟩ := hvs
      have h1 := eval_rep hm x
      have h2 := eval_rep hm y
      rw [hx] at h1
      rw [hy] at h2
      split at h
      · rename_i r hr
        generalize hex : a.eval x = vx at h1
        generalize hey : a.eval y = vy at h2
        cases h1 with
        | ag _ xs h3 h4 =>
          cases h2 with
          | ag _ ys h5 h6 =>
            have hrun : (Op.equalIn 10000 t (.agg xs) (.agg ys)).run P w = .ok r w := by
              rw [run_equalIn_struct w 9999 t xs ys ht hp]
              exact run_eqFields (d := 9998) _ 0 ks cs ds r hk hr (by omega) (by omega) (fun j c hj => by rw [Nat.zero_add]; exact h4 j c hj) (fun j c hj => by rw [Nat.zero_add]; exact h6 j c hj)
            refine ⟨_, _, h.2.2, rep_mkv _, fun o ho => ?_⟩
            cases neq with
            | true => simp [execOp, ho, hex, hey, run_eqGuard_agg w _ t x y xs ys hm0, run_neq_struct, hrun]
            | false => simp [execOp, ho, hex, hey, run_eqGuard_agg w _ t x y xs ys hm0, run_eql_struct, hrun]
      · exact h.elim
    · exact h.elim
end
end Go.Gw
