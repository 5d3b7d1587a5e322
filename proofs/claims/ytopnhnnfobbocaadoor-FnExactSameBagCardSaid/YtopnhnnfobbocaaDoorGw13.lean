/- Making slices, parts of slices, bytes to a string, maps; with no condition. -/
import Derived.Test.YtopnhnnfobbocaaDoorGw12
namespace Go.Gw
open Go
set_option linter.unusedVariables false
set_option linter.unusedSimpArgs false

section
variable {P : Program} {cx : Cx} {ι : Nat → Value} {ow : Nat → Option Nat} {s : St} {a : Act} {w : World} {d : Nat}

theorem sound_mkSlc {t e : TypeId} {i : TypeInfo} {z : Value} {x y : Operand} (ht : P.underlying t = some (.slice e)) (hi : P.info? e = some i) (hz : i.zero = some z) :
    Sound P cx (.makeSlice t x y) (.mkSlc i.size i.bytes z.cells.toList x y) := by
  intro det ι ow s a w d K hm h hfr o ho next Q hnx
  simp only [IOp.opds, List.map_cons, List.map_nil, res] at h
  have hx := eval_rep hm x
  have hy := eval_rep hm y
  have hd := hfr d (by simp [IOp.fresh])
  split at h
  · rename_i fr kl l fr' kc c hvs
    simp only [List.cons.injEq, and_true] at hvs
    rw [hvs.1] at hx
    rw [hvs.2] at hy
    have hx := rep_v hx
    have hy := rep_v hy
    simp only [Cnd.holds] at h
    obtain ⟨hA, hp, h⟩ := h
    obtain ⟨h0, hzl⟩ := of_decide_eq_true hA
    have hzl : z.cells.size = i.size := by simpa using hzl
    obtain ⟨p1, p2, p3, p4⟩ : 0 ≤ l ∧ l ≤ c ∧ (i.bytes : Int) * c ≤ 281474976710656 ∧ c ≤ 9223372036854775807 := hp
    have hrun : (execOp a.eval o).run P w = .ok (.value (.slice (some ⟨w.heap.size, 0, none⟩) l.toNat c.toNat)) (w.alloc (.cells (madeCells z.cells (c.toNat * i.size)) e)) := by
      simp [execOp, ho, hx, hy, run_make w t e i z ht hi hz kl kc l c p1 p2 p3 p4]
    unfold Oper.wp
    rw [hrun, Oper.upon_value]
    have hm' := hm.newObj (dead := []) (M := .u) hd (Grows.alloc w (.cells (madeCells z.cells (c.toNat * i.size)) e)) (Nat.le_refl _) (.slice (some ⟨w.heap.size, 0, none⟩) l.toNat c.toNat) (.row .u true i.size l.toNat (fun _ j => .v (z.cells.toList.getD j undef)) []) (fun hF hZ => by
      refine .inr ⟨w.heap.size, c.toNat, madeCells z.cells (c.toNat * i.size), e, fun _ => none, rfl, by simp [owNew], (by show (w.heap.push _)[w.heap.size]? = _; simp), by omega, by rw [size_madeCells]; exact Nat.le_refl _, rfl, fun p q hp hq => ?_⟩
      simp only [EltOk, hole]
      have hlt : p * i.size + q < c.toNat * i.size := by
        have := idx_lt hp hq
        have := Nat.mul_le_mul_right i.size (show l.toNat ≤ c.toNat by omega)
        omega
      have e1 : (madeCells z.cells (c.toNat * i.size)).getD (p * i.size + q) undef = z.cells.toList.getD q undef := by
        simp only [madeCells, Array.getD_eq_getD_getElem?, Array.getElem?_map, Array.getElem?_range, hlt, if_true, Option.map_some, Option.getD_some, hzl]
        have e2 : (p * i.size + q) % i.size = q := by rw [Nat.add_comm, Nat.add_mul_mod_self_right]; exact Nat.mod_eq_of_lt hq
        rw [e2]
        have : q < z.cells.size := by omega
        simp [List.getD, this]
      rw [e1]
      exact .v _ _)
    refine hnx (fun t => if t = d then .slice (some ⟨w.heap.size, 0, none⟩) l.toNat c.toNat else ι t) (owNew ow w.heap.size d [] .u) _ _ _ _ h (hm'.same (fun _ => rfl) fun _ => rfl) ?_
    have := RepA.own (F := zF cx (owNew ow w.heap.size d [] .u)) (Z := zZ cx (owNew ow w.heap.size d [] .u)) (ι := fun t => if t = d then .slice (some ⟨w.heap.size, 0, none⟩) l.toNat c.toNat else ι t) (w := w.alloc (.cells (madeCells z.cells (c.toNat * i.size)) e)) d
    simp only [if_true] at this
    exact this
  · exact h.elim

theorem run_bound {k : IntKind} {i : Int} {y : Nat} {code : BoundsCode} (h0 : 0 ≤ i) (h1 : i ≤ y) (w : World) : (Instr.sliceBound (.int k i) y code).run P w = .ok i.toNat w := by
  simp [Instr.sliceBound, asIntOf, h0, h1]

theorem asI_eval (hm : Models cx ι ow s a w) {x : Operand} {v : Int} (h : asI (opd cx.G s x) = some v) : ∃ k, a.eval x = .int k v := by
  have he := eval_rep hm x
  unfold asI at h
  split at h
  · rename_i fr k v' hx
    cases h
    rw [hx] at he
    exact ⟨k, rep_v he⟩
  · cases h

theorem bnds_spec (hm : Models cx ι ow s a w) {lo hi : Option Operand} {n : Nat} {l u : Int} (hb : bnds lo.isSome hi.isSome n ((lo.toList ++ hi.toList).map (opd cx.G s)) = some (l, u)) :
    (match lo with | some x => ∃ k, a.eval x = .int k l | none => l = 0) ∧ (match hi with | some x => ∃ k, a.eval x = .int k u | none => u = n) := by
  cases lo with
  | none =>
    cases hi with
    | none => simp [bnds] at hb; exact ⟨hb.1.symm, hb.2.symm⟩
    | some y =>
      simp only [Option.isSome_none, Option.isSome_some, Option.toList_none, Option.toList_some, List.nil_append, List.map_cons, List.map_nil, bnds] at hb
      split at hb
      · rename_i v hv
        simp only [Option.some.injEq, Prod.mk.injEq] at hb
        obtain ⟨rfl, rfl⟩ := hb
        exact ⟨rfl, asI_eval hm hv⟩
      · cases hb
  | some x =>
    cases hi with
    | none =>
      simp only [Option.isSome_none, Option.isSome_some, Option.toList_none, Option.toList_some, List.append_nil, List.map_cons, List.map_nil, bnds] at hb
      split at hb
      · rename_i v hv
        simp only [Option.some.injEq, Prod.mk.injEq] at hb
        obtain ⟨rfl, rfl⟩ := hb
        exact ⟨asI_eval hm hv, rfl⟩
      · cases hb
    | some y =>
      simp only [Option.isSome_some, Option.toList_some, List.cons_append, List.nil_append, List.map_cons, List.map_nil, bnds] at hb
      split at hb
      · rename_i v v' hv hv'
        simp only [Option.some.injEq, Prod.mk.injEq] at hb
        obtain ⟨rfl, rfl⟩ := hb
        exact ⟨asI_eval hm hv, asI_eval hm hv'⟩
      · cases hb

theorem sound_slc {t e : TypeId} {esz : Nat} {x : Operand} {lo hi : Option Operand} (ht : P.underlying t = some (.slice e)) (hn : (P.info? e).map (·.size) = some esz) : Sound P cx (.slice t x lo hi none) (.slc esz x lo hi) := by
  intro det ι ow s a w d K hm h hfr o ho next Q hnx
  simp only [IOp.opds, List.map_cons, res] at h
  have hx := eval_rep hm x
  have hrun : ∀ (p : Option Addr) (n cap : Nat) (l u : Int), a.eval x = .slice p n cap → bnds lo.isSome hi.isSome n ((lo.toList ++ hi.toList).map (opd cx.G s)) = some (l, u) → 0 ≤ l → l ≤ u → u ≤ n → n ≤ cap →
      (execOp a.eval o).run P w = .ok (.value (.slice (if cap = l.toNat then p else p.map (·.add (l.toNat * esz))) (u.toNat - l.toNat) (cap - l.toNat))) w := by
    intro p n cap l u hev hb h0 h1 h2 h3
    obtain ⟨hl, hh⟩ := bnds_spec hm hb
    have hbs : (Instr.sliceBounds true n cap (lo.map a.eval) (hi.map a.eval) none).run P w = .ok (l.toNat, u.toNat, cap) w := by
      clear h
      cases lo with
      | none =>
        cases hi with
        | none => simp only at hl hh; subst hl; subst hh; simp [Instr.sliceBounds]
        | some y =>
          simp only at hl hh
          subst hl
          obtain ⟨k, hk⟩ := hh
          simp [Instr.sliceBounds, hk, run_bound h1 (show u ≤ (cap : Int) by omega)]
      | some z =>
        obtain ⟨k, hk⟩ := hl
        cases hi with
        | none => simp only at hh; subst hh; simp [Instr.sliceBounds, hk, run_bound h0 h1]
        | some y =>
          obtain ⟨k', hk'⟩ := hh
          simp [Instr.sliceBounds, hk, hk', run_bound (show 0 ≤ u by omega) (show u ≤ (cap : Int) by omega), run_bound h0 (show l ≤ (u.toNat : Int) by omega)]
    simp [execOp, ho, hev, Instr.sliceAt, run_underlying ht, Instr.slice, hbs, run_size hn]
  split at h
  · rename_i j hxj
    split at h
    · rename_i m nn e' n g hl hob
      split at h
      · rename_i l hh hb
        simp only [Cnd.holds, Bool.and_eq_true, decide_eq_true_eq, bne_iff_ne, ne_eq, Bool.not_eq_true', List.isEmpty_iff] at h
        obtain ⟨⟨⟨⟨rfl, hlo⟩, rfl⟩, hjd⟩, ⟨p1, p2⟩, h⟩ := h
        have hlo : lo = none := by cases lo <;> simp_all
        subst hlo
        have hl0 : l = 0 := (bnds_spec hm hb).1
        subst hl0
        have hd := hfr d (by simp [IOp.fresh])
        rw [hxj] at hx
        generalize hev : a.eval x = xv at hx
        cases hx with
        | own _ =>
          unfold Oper.wp
          rcases hm.obs j _ hob with ⟨rfl, hcase⟩ | ⟨b, cap, c, tt, q, h4, h0, h5, h6, h7, hq, h11⟩
          · -- no element
            have hh0 : hh = 0 := by omega
            subst hh0
            have hv : ∃ p, ι j = .slice p 0 0 ∧ (p = none → nn = false) ∧ ∀ ad, p = some ad → ad.spot = none := by
              rcases hcase with ⟨e1, e2⟩ | ⟨b, off, e2⟩
              · exact ⟨none, e2, fun _ => e1, fun ad h => by cases h⟩
              · exact ⟨_, e2, (fun h => by cases h), fun ad h => by cases h; rfl⟩
            obtain ⟨p, hp1, hp2, hp3⟩ := hv
            rw [hrun p 0 0 0 0 (hev.trans hp1) hb (by omega) (by omega) (by omega) (by omega), Oper.upon_value]
            have hm1 := (hm.dels [j])
            have hm' := hm1.change (s' := (s.dels [j]).setOb d (.row m nn e' 0 g [])) (ι' := fun t => if t = d then .slice p 0 0 else ι t) (ow' := fun b => match rel ow [j] b with | some i => if i = d then none else some i | none => none) rfl (fun t => by
                by_cases ht : t = d
                · exact .inr (ht ▸ ⟨fun t => by rw [get_dels]; exact hd.1 t, fun i o hi => by rw [obj_dels] at hi; split at hi; cases hi; exact hd.2.1 i o hi, hd.2.2⟩)
                · exact .inl (by simp [ht]))
              (fun b _ hb => ⟨by simp [hb], rfl⟩) (fun b t ht => by
                split at ht
                · rename_i i hi
                  split at ht
                  · cases ht
                  · cases ht
                    obtain ⟨g1, g2⟩ := hm1.dom b t hi
                    exact ⟨by rw [St.obj_setOb]; split; rfl; exact g1, g2⟩
                · cases ht) rfl rfl rfl (Nat.le_refl _) (Nat.le_refl _) (fun t o ht => by
                rw [St.obj_setOb] at ht
                split at ht
                · rename_i hdt
                  subst hdt
                  cases ht
                  refine .inr fun _ _ _ => .inl ⟨rfl, ?_⟩
                  simp only [if_true]
                  cases p with
                  | none => exact .inl ⟨hp2 rfl, rfl⟩
                  | some ad =>
                    obtain ⟨b, off, sp⟩ := ad
                    have := hp3 _ rfl
                    simp only at this
                    subst this
                    exact .inr ⟨b, off, rfl⟩
                · rename_i hdt
                  refine .inl ⟨if_neg fun e => hdt e.symm, ht, fun b _ hb => ⟨?_, rfl⟩⟩
                  simp only [hb]
                  rw [if_neg fun e => hdt e.symm])
            refine hnx _ _ _ _ _ _ h (hm'.same (fun t => rfl) fun i => rfl) ?_
            have := RepA.own (F := zF cx (fun b => match rel ow [j] b with | some i => if i = d then none else some i | none => none)) (Z := zZ cx (fun b => match rel ow [j] b with | some i => if i = d then none else some i | none => none)) (ι := fun t => if t = d then .slice p 0 0 else ι t) (w := w) d
            simp only [if_true] at this
            have e1 : (Value.slice (if 0 = (0 : Int).toNat then p else p.map (·.add ((0 : Int).toNat * e'))) ((0 : Int).toNat - (0 : Int).toNat) (0 - (0 : Int).toNat)) = .slice p 0 0 := by simp
            rw [e1]
            exact this
          · rw [hrun _ _ _ _ _ (hev.trans h4) hb (by omega) (by omega) (by omega) h6, Oper.upon_value]
            have hval : (Value.slice (if cap = (0 : Int).toNat then some ⟨b, 0, none⟩ else (some (⟨b, 0, none⟩ : Addr)).map (·.add ((0 : Int).toNat * e'))) (hh.toNat - (0 : Int).toNat) (cap - (0 : Int).toNat)) = .slice (some ⟨b, 0, none⟩) hh.toNat cap := by
              simp [addr_add]
            rw [hval]
            have hm' := hm.putRow (i' := d) (b0 := b) (M := .u) hob h0 (.inr hd) (dead := []) (by simp) (.slice (some ⟨b, 0, none⟩) hh.toNat cap) (fun e => (hjd e.symm).elim) rfl rfl rfl (Nat.le_refl _) (Nat.le_refl _) (fun _ _ _ => rfl) (.row m nn e' hh.toNat g []) (fun hF hZ hno => by
              refine .inr ⟨b, cap, c, tt, q, rfl, by simp [owPut, h0], h5, by omega, h7, hq, fun p r hp hr => ?_⟩
              refine EltOk.mono hF hZ (fun b1 hb1 hqb hl1 => ⟨rfl, ?_⟩) (fun d' hd' => by simp [hole] at hd') (h11 p r (by omega) hr)
              have hb1 : ow b1 = some j := hb1
              simp [owPut, hb1])
            refine hnx (fun t => if t = d then .slice (some ⟨b, 0, none⟩) hh.toNat cap else ι t) _ _ _ _ _ h (hm'.same (fun t => rfl) fun i => rfl) ?_
            have := RepA.own (F := zF cx (owPut ow j d b [] .u)) (Z := zZ cx (owPut ow j d b [] .u)) (ι := fun t => if t = d then .slice (some ⟨b, 0, none⟩) hh.toNat cap else ι t) (w := w) d
            simp only [if_true] at this
            exact this
      · exact h.elim
    · exact h.elim
  · rename_i fr nn e' n g hxj
    split at h
    · rename_i l hh hb
      simp only [Cnd.holds, decide_eq_true_eq] at h
      obtain ⟨rfl, ⟨p1, p2, p3⟩, h⟩ := h
      rw [hxj, rep_p] at hx
      generalize hev : a.eval x = xv at hx
      unfold Oper.wp
      cases hx with
      | nil =>
        have hl0 : l = 0 := by omega
        have hh0 : hh = 0 := by omega
        subst hl0
        subst hh0
        rw [hrun none 0 0 0 0 hev hb (by omega) (by omega) (by omega) (by omega), Oper.upon_value]
        refine hnx ι ow _ [] _ w h hm (rep_p.2 ?_)
        exact .nil _ _
      | emp _ _ _ ad cap =>
        have hl0 : l = 0 := by omega
        have hh0 : hh = 0 := by omega
        subst hl0
        subst hh0
        rw [hrun (some ad) 0 cap 0 0 hev hb (by omega) (by omega) (by omega) (by omega), Oper.upon_value]
        refine hnx ι ow _ [] _ w h hm (rep_p.2 ?_)
        have key : ∀ (ad' : Addr) (cap' : Nat), RepP (if fr then zF cx ow else zZ cx ow) w (PV.sl nn e' (0 - 0 : Int).toNat fun i j => g (i + Int.toNat 0) j) (.slice (some ad') (Int.toNat 0 - Int.toNat 0) cap') := fun ad' cap' => .emp _ _ _ _ _
        by_cases hc : cap = Int.toNat 0
        · rw [if_pos hc]; exact key _ _
        · rw [if_neg hc]; exact key _ _
      | sl _ _ _ _ b off cap val hc hr hz hcap =>
        rw [hrun _ _ _ _ _ hev hb p1 p2 p3 hcap, Oper.upon_value]
        refine hnx ι ow _ [] _ w h hm (rep_p.2 ?_)
        have e0 : hh.toNat - l.toNat = (hh - l).toNat := by omega
        rw [e0]
        by_cases hcl : cap = l.toNat
        · rw [if_pos hcl]
          have hz0 : (hh - l).toNat = 0 := by omega
          exact .sl nn e' (hh - l).toNat (fun i j => g (i + l.toNat) j) b off _ (fun _ _ => undef) (fun i j hi => by rw [hz0] at hi; omega) (fun i j hi => by rw [hz0] at hi; omega) (fun i j hi => by rw [hz0] at hi; omega) (by omega)
        · rw [if_neg hcl]
          simp only [Option.map_some, addr_add]
          refine .sl nn e' (hh - l).toNat (fun i j => g (i + l.toNat) j) b (off + l.toNat * e') _ (fun i j => val (i + l.toNat) j) (fun i j hi hj => ?_) (fun i j hi hj => hr _ _ (by omega) hj) (fun i j hi hj => hz (i + l.toNat) j (by omega) hj) (by omega)
          rw [show off + l.toNat * e' + i * e' + j = off + (i + l.toNat) * e' + j by rw [Nat.add_mul]; omega]
          exact hc _ _ (by omega) hj
    · exact h.elim
  · rename_i fr hxj
    split at h
    · rename_i l hh hb
      simp only [Cnd.holds] at h
      obtain ⟨_, ⟨rfl, rfl⟩, h⟩ := h
      rw [hxj] at hx
      have hx := rep_v hx
      unfold Oper.wp
      rw [hrun none 0 0 0 0 hx hb (by omega) (by omega) (by omega) (by omega), Oper.upon_value]
      exact hnx ι ow _ [] _ w h hm (rep_mkv _)
    · exact h.elim
  · exact h.elim
end
end Go.Gw
