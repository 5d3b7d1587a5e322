/- Making slices, parts of slices, bytes to a string, maps; with no condition. -/
import Derived.Test.YtigaelckdbeecaaGreatDoorGw11
namespace Go.Gw
open Go
set_option linter.unusedVariables false
set_option linter.unusedSimpArgs false
section
variable {P : Program} {cx : Cx} {ι : Nat → Value} {ow : Nat → Option Nat} {s : St} {a : Act} {w : World} {d : Nat}
theorem sound_mkSlc {t e : TypeId} {i : TypeInfo} {z : Value} {x y : Operand} (ht : P.underlying t = some (.slice e)) (hi : P.info? e = some i) (hz : i.zero = some z) :
    Sound P cx (.makeSlice t x y) (.mkSlc i.size i.bytes z.cells.toList x y) := by
  intro det ι ow s a w d K hm h hfr o ho next Q hnx
  simp only [IOp.opds, List.map_cons, List.map_nil, res] at h
  have hx := eval_rep hm x
  have hy := eval_rep hm y
  have hd := hfr d (by simp [IOp.fresh])
  split at h
  · rename_i fr kl l fr' kc c hvs
    simp only [List.cons.injEq, and_true] at hvs
    rw [hvs.1] at hx
    rw [hvs.2] at hy
    have hx := rep_v hx
    have hy := rep_v hy
    simp only [Cnd.holds] at h
    obtain ⟨hA, hp, h⟩ := h
    obtain ⟨h0, hzl⟩ := of_decide_eq_true hA
    have hzl : z.cells.size = i.size := by simpa using hzl
    obtain ⟨p1, p2, p3, p4⟩ : 0 ≤ l ∧ l ≤ c ∧ (i.bytes : Int) * c ≤ 281474976710656 ∧ c ≤ 9223372036854775807 := hp
    have hrun : (execOp a.eval o).run P w = .ok (.value (.slice (some ⟨w.heap.size, 0, none⟩) l.toNat c.toNat)) (w.alloc (.cells (madeCells z.cells (c.toNat * i.size)) e)) := by
      simp [execOp, ho, hx, hy, run_make w t e i z ht hi hz kl kc l c p1 p2 p3 p4]
    unfold Oper.wp
    rw [hrun, Oper.upon_value]
    have hm' := hm.newObj (dead := []) (M := .u) hd (Grows.alloc w (.cells (madeCells z.cells (c.toNat * i.size)) e)) (Nat.le_refl _) (.slice (some ⟨w.heap.size, 0, none⟩) l.toNat c.toNat) (.row .u true i.size l.toNat (fun _ j => .v (z.cells.toList.getD j undef)) []) (fun hF hZ => by
      refine .inr ⟨w.heap.size, c.toNat, madeCells z.cells (c.toNat * i.size), e, fun _ => none, rfl, by simp [owNew], (by show (w.heap.push _)[w.heap.size]? = _; simp), by omega, by rw [size_madeCells]; exact Nat.le_refl _, rfl, fun p q hp hq => ?_⟩
      simp only [EltOk, hole]
      have hlt : p * i.size + q < c.toNat * i.size := by
        have := idx_lt hp hq
        have := Nat.mul_le_mul_right i.size (show l.toNat ≤ c.toNat by omega)
        omega
      have e1 : (madeCells z.cells (c.toNat * i.size)).getD (p * i.size + q) undef = z.cells.toList.getD q undef := by
        simp only [madeCells, Array.getD_eq_getD_getElem?, Array.getElem?_map, Array.getElem?_range, hlt, if_true, Option.map_some, Option.getD_some, hzl]
        have e2 : (p * i.size + q) % i.size = q := by rw [Nat.add_comm, Nat.add_mul_mod_self_right]; exact Nat.mod_eq_of_lt hq
        rw [e2]
        have : q < z.cells.size := by omega
        simp [List.getD, this]
      rw [e1]
      exact .v _ _)
    refine hnx (fun t => if t = d then .slice (some ⟨w.heap.size, 0, none⟩) l.toNat c.toNat else ι t) (owNew ow w.heap.size d [] .u) _ _ _ _ h (hm'.same (fun _ => rfl) fun _ => rfl) ?_
    have := RepA.own (F := zF cx (owNew ow w.heap.size d [] .u)) (Z := zZ cx (owNew ow w.heap.size d [] .u)) (ι := fun t => if t = d then .slice (some ⟨w.heap.size, 0, none⟩) l.toNat c.toNat else ι t) (w := w.alloc (.cells (madeCells z.cells (c.toNat * i.size)) e)) d
    simp only [if_true] at this
    exact this
  · exact h.elim
theorem run_bound {k : IntKind} {i : Int} {y : Nat} {code : BoundsCode} (h0 : 0 ≤ i) (h1 : i ≤ y) (w : World) : (Instr.sliceBound (.int k i) y code).run P w = .ok i.toNat w := by
  simp [Instr.sliceBound, asIntOf, h0, h1]
theorem asI_eval (hm : Models cx ι ow s a w) {x : Operand} {v : Int} (h : asI (opd cx.G s x) = some v) : ∃ k, a.eval x = .int k v := by
  have he := eval_rep hm x
  unfold asI at h
  split at h
  · rename_i fr k v' hx
    cases h
    rw [hx] at he
    exact ⟨k, rep_v he⟩
  · cases h
theorem bnds_spec (hm : Models cx ι ow s a w) {lo hi : Option Operand} {n : Nat} {l u : Int} (hb : bnds lo.isSome hi.isSome n ((lo.toList ++ hi.toList).map (opd cx.G s)) = some (l, u)) :
    (match lo with | some x => ∃ k, a.eval x = .int k l | none => l = 0) ∧ (match hi with | some x => ∃ k, a.eval x = .int k u | none => u = n) := by
  cases lo with
  | none =>
    cases hi with
    | none => simp [bnds] at hb; exact ⟨hb.1.symm, hb.2.symm⟩
    | some y =>
      simp only [Option.isSome_none, Option.isSome_some, Option.toList_none, Option.toList_some, List.nil_append, List.map_cons, List.map_nil, bnds] at hb
      split at hb
      · rename_i v hv
        simp only [Option.some.injEq, Prod.mk.injEq] at hb
        obtain ⟨rfl, rfl⟩ := hb
        exact ⟨rfl, asI_eval hm hv⟩
      · cases hb
  | some x =>
    cases hi with
    | none =>
      simp only [Option.isSome_none, Option.isSome_some, Option.toList_none, Option.toList_some, List.append_nil, List.map_cons, List.map_nil, bnds] at hb
      split at hb
      · rename_i v hv
        simp only [Option.some.injEq, Prod.mk.injEq] at hb
        obtain ⟨rfl, rfl⟩ := hb
        exact ⟨asI_eval hm hv, rfl⟩
      · cases hb
    | some y =>
      simp only [Option.isSome_some, Option.toList_some, List.cons_append, List.nil_append, List.map_cons, List.map_nil, bnds] at hb
      split at hb
      · rename_i v v' hv hv'
        simp only [Option.some.injEq, Prod.mk.injEq] at hb
        obtain ⟨rfl, rfl⟩ := hb
        exact ⟨asI_eval hm hv, asI_eval hm hv'⟩
      · cases hb
theorem sound_slc {t e : TypeId} {esz : Nat} {x : Operand} {lo hi : Option Operand} (ht : P.underlying t = some (.slice e)) (hn : (P.info? e).map (·.size) = some esz) : Sound P cx (.slice t x lo hi none) (.slc esz x lo hi) := by
  intro det ι ow s a w d K hm h hfr o ho next Q hnx
  simp only [IOp.opds, List.map_cons, res] at h
  have hx := eval_rep hm x
  have hrun : ∀ (p : Option Addr) (n cap : Nat) (l u : Int), a.eval x = .slice p n cap → bnds lo.isSome hi.isSome n ((lo.toList ++ hi.toList).map (opd cx.G s)) = some (l, u) → 0 ≤ l → l ≤ u → u ≤ n → n ≤ cap →
      (execOp a.eval o).run P w = .ok (.value (.slice (if cap = l.toNat then p else p.map (·.add (l.toNat * esz))) (u.toNat - l.toNat) (cap - l.toNat))) w := by
    intro p n cap l u hev hb h0 h1 h2 h3
    obtain ⟨hl, hh⟩ := bnds_spec hm hb
    have hbs : (Instr.sliceBounds true n cap (lo.map a.eval) (hi.map a.eval) none).run P w = .ok (l.toNat, u.toNat, cap) w := by
      clear h
      cases lo with
      | none =>
        cases hi with
        | none => simp only at hl hh; subst hl; subst hh; simp [Instr.sliceBounds]
        | some y =>
          simp only at hl hh
          subst hl
          obtain ⟨k, hk⟩ := hh
          simp [Instr.sliceBounds, hk, run_bound h1 (show u ≤ (cap : Int) by omega)]
      | some z =>
        obtain ⟨k, hk⟩ := hl
        cases hi with
        | none => simp only at hh; subst hh; simp [Instr.sliceBounds, hk, run_bound h0 h1]
        | some y =>
          obtain ⟨k', hk'⟩ := hh
          simp [Instr.sliceBounds, hk, hk', run_bound (show 0 ≤ u by omega) (show u ≤ (cap : Int) by omega), run_bound h0 (show l ≤ (u.toNat : Int) by omega)]
    simp [execOp, ho, hev, Instr.sliceAt, run_underlying ht, Instr.slice, hbs, run_size hn]
  split at h
  · rename_i j hxj
    split at h
    · rename_i m nn e' n g hl hob
      split at h
      · rename_i l hh hb
        split at h
        rotate_left
        · rename_i hlo0
          simp only [Cnd.holds, Bool.and_eq_true, decide_eq_true_eq, Bool.not_eq_true'] at h
          obtain ⟨⟨rfl, hhi⟩, ⟨p1, p2⟩, h⟩ := h
          have hhi : hi = none := by cases hi <;> simp_all
          subst hhi
          have hh' : hh = (n : Int) := (bnds_spec hm hb).2
          subst hh'
          rw [hxj] at hx
          generalize hev : a.eval x = xv at hx
          cases hx with
          | own _ =>
            unfold Oper.wp
            obtain ⟨p, cap, hv, hcap⟩ : ∃ p cap, ι j = .slice p n cap ∧ n ≤ cap := by
              rcases hm.obs j _ hob with ⟨rfl, hcase⟩ | ⟨b, cap, c, tt, q, h4, _, _, h6, _⟩
              · rcases hcase with ⟨_, e2⟩ | ⟨b, off, e2⟩
                · exact ⟨none, 0, e2, Nat.le_refl _⟩
                · exact ⟨_, 0, e2, Nat.le_refl _⟩
              · exact ⟨_, cap, h4, h6⟩
            rw [hrun p n cap l n (hev.trans hv) hb p1 p2 (Int.le_refl _) hcap, Oper.upon_value]
            refine hnx ι ow _ _ _ _ h (hm.same (fun t => rfl) fun i => rfl) ?_
            refine .vw j _ _ _ ?_
            rw [hv]; simp [viewV]
        rename_i hlo0
        simp only [Cnd.holds, Bool.and_eq_true, decide_eq_true_eq, bne_iff_ne, ne_eq, Bool.not_eq_true', List.isEmpty_iff] at h
        obtain ⟨⟨⟨⟨rfl, hlo⟩, rfl⟩, hjd⟩, ⟨p1, p2⟩, h⟩ := h
        have hlo : lo = none := by cases lo <;> simp_all
        subst hlo
        have hl0 : l = 0 := (bnds_spec hm hb).1
        subst hl0
        have hd := hfr d (by simp [IOp.fresh])
        rw [hxj] at hx
        generalize hev : a.eval x = xv at hx
        cases hx with
        | own _ =>
          unfold Oper.wp
          rcases hm.obs j _ hob with ⟨rfl, hcase⟩ | ⟨b, cap, c, tt, q, h4, h0, h5, h6, h7, hq, h11⟩
          · -- no element
            have hh0 : hh = 0 := by omega
            subst hh0
            have hv : ∃ p, ι j = .slice p 0 0 ∧ (p = none → nn = false) ∧ ∀ ad, p = some ad → ad.spot = none := by
              rcases hcase with ⟨e1, e2⟩ | ⟨b, off, e2⟩
              · exact ⟨none, e2, fun _ => e1, fun ad h => by cases h⟩
              · exact ⟨_, e2, (fun h => by cases h), fun ad h => by cases h; rfl⟩
            obtain ⟨p, hp1, hp2, hp3⟩ := hv
            rw [hrun p 0 0 0 0 (hev.trans hp1) hb (by omega) (by omega) (by omega) (by omega), Oper.upon_value]
            have hm1 := (hm.dels [j])
            have hm' := hm1.change (s' := (s.dels [j]).setOb d (.row m nn e' 0 g [])) (ι' := fun t => if t = d then .slice p 0 0 else ι t) (ow' := fun b => match rel ow [j] b with | some i => if i = d then none else some i | none => none) rfl (fun t => by
                by_cases ht : t = d
                · exact .inr (ht ▸ ⟨fun t => by rw [get_dels]; exact hd.1 t, fun i o hi => by rw [obj_dels] at hi; split at hi; cases hi; exact hd.2.1 i o hi, hd.2.2⟩)
                · exact .inl (by simp [ht]))
              (fun b _ hb => ⟨by simp [hb], rfl⟩) (fun b t ht => by
                split at ht
                · rename_i i hi
                  split at ht
                  · cases ht
                  · cases ht
                    obtain ⟨g1, g2⟩ := hm1.dom b t hi
                    exact ⟨by rw [St.obj_setOb]; split; rfl; exact g1, g2⟩
                · cases ht) rfl rfl rfl (Nat.le_refl _) (Nat.le_refl _) (fun t o ht => by
                rw [St.obj_setOb] at ht
                split at ht
                · rename_i hdt
                  subst hdt
                  cases ht
                  refine .inr fun _ _ _ => .inl ⟨rfl, ?_⟩
                  simp only [if_true]
                  cases p with
                  | none => exact .inl ⟨hp2 rfl, rfl⟩
                  | some ad =>
                    obtain ⟨b, off, sp⟩ := ad
                    have := hp3 _ rfl
                    simp only at this
                    subst this
                    exact .inr ⟨b, off, rfl⟩
                · rename_i hdt
                  refine .inl ⟨if_neg fun e => hdt e.symm, ht, fun b _ hb => ⟨?_, rfl⟩⟩
                  simp only [hb]
                  rw [if_neg fun e => hdt e.symm])
            refine hnx _ _ _ _ _ _ h (hm'.same (fun t => rfl) fun i => rfl) ?_
            have := RepA.own (F := zF cx (fun b => match rel ow [j] b with | some i => if i = d then none else some i | none => none)) (Z := zZ cx (fun b => match rel ow [j] b with | some i => if i = d then none else some i | none => none)) (ι := fun t => if t = d then .slice p 0 0 else ι t) (w := w) d
            simp only [if_true] at this
            have e1 : (Value.slice (if 0 = (0 : Int).toNat then p else p.map (·.add ((0 : Int).toNat * e'))) ((0 : Int).toNat - (0 : Int).toNat) (0 - (0 : Int).toNat)) = .slice p 0 0 := by simp
            rw [e1]
            exact this
          · rw [hrun _ _ _ _ _ (hev.trans h4) hb (by omega) (by omega) (by omega) h6, Oper.upon_value]
            have hval : (Value.slice (if cap = (0 : Int).toNat then some ⟨b, 0, none⟩ else (some (⟨b, 0, none⟩ : Addr)).map (·.add ((0 : Int).toNat * e'))) (hh.toNat - (0 : Int).toNat) (cap - (0 : Int).toNat)) = .slice (some ⟨b, 0, none⟩) hh.toNat cap := by
              simp [addr_add]
            rw [hval]
            have hm' := hm.putRow (i' := d) (b0 := b) (M := .u) hob h0 (.inr hd) (dead := []) (by simp) (.slice (some ⟨b, 0, none⟩) hh.toNat cap) (fun e => (hjd e.symm).elim) rfl rfl rfl (Nat.le_refl _) (Nat.le_refl _) (fun _ _ _ => rfl) (.row m nn e' hh.toNat g []) (fun hF hZ hno => by
              refine .inr ⟨b, cap, c, tt, q, rfl, by simp [owPut, h0], h5, by omega, h7, hq, fun p r hp hr => ?_⟩
              refine EltOk.mono hF hZ (fun b1 hb1 hqb hl1 => ⟨rfl, ?_⟩) (fun d' hd' => by simp [hole] at hd') (h11 p r (by omega) hr)
              have hb1 : ow b1 = some j := hb1
              simp [owPut, hb1])
            refine hnx (fun t => if t = d then .slice (some ⟨b, 0, none⟩) hh.toNat cap else ι t) _ _ _ _ _ h (hm'.same (fun t => rfl) fun i => rfl) ?_
            have := RepA.own (F := zF cx (owPut ow j d b [] .u)) (Z := zZ cx (owPut ow j d b [] .u)) (ι := fun t => if t = d then .slice (some ⟨b, 0, none⟩) hh.toNat cap else ι t) (w := w) d
            simp only [if_true] at this
            exact this
      · exact h.elim
    · exact h.elim
  · rename_i fr nn e' n g hxj
    split at h
    · rename_i l hh hb
      simp only [Cnd.holds, decide_eq_true_eq] at h
      obtain ⟨rfl, ⟨p1, p2, p3⟩, h⟩ := h
      rw [hxj, rep_p] at hx
      generalize hev : a.eval x = xv at hx
      unfold Oper.wp
      cases hx with
      | nil =>
        have hl0 : l = 0 := by omega
        have hh0 : hh = 0 := by omega
        subst hl0
        subst hh0
        rw [hrun none 0 0 0 0 hev hb (by omega) (by omega) (by omega) (by omega), Oper.upon_value]
        refine hnx ι ow _ [] _ w h hm (rep_p.2 ?_)
        exact .nil _ _
      | emp _ _ _ ad cap =>
        have hl0 : l = 0 := by omega
        have hh0 : hh = 0 := by omega
        subst hl0
        subst hh0
        rw [hrun (some ad) 0 cap 0 0 hev hb (by omega) (by omega) (by omega) (by omega), Oper.upon_value]
        refine hnx ι ow _ [] _ w h hm (rep_p.2 ?_)
        have key : ∀ (ad' : Addr) (cap' : Nat), RepP (if fr then zF cx ow else zZ cx ow) w (PV.sl nn e' (0 - 0 : Int).toNat fun i j => g (i + Int.toNat 0) j) (.slice (some ad') (Int.toNat 0 - Int.toNat 0) cap') := fun ad' cap' => .emp _ _ _ _ _
        by_cases hc : cap = Int.toNat 0
        · rw [if_pos hc]; exact key _ _
        · rw [if_neg hc]; exact key _ _
      | sl _ _ _ _ b off cap val hc hr hz hcap =>
        rw [hrun _ _ _ _ _ hev hb p1 p2 p3 hcap, Oper.upon_value]
        refine hnx ι ow _ [] _ w h hm (rep_p.2 ?_)
        have e0 : hh.toNat - l.toNat = (hh - l).toNat := by omega
        rw [e0]
        by_cases hcl : cap = l.toNat
        · rw [if_pos hcl]
          have hz0 : (hh - l).toNat = 0 := by omega
          exact .sl nn e' (hh - l).toNat (fun i j => g (i + l.toNat) j) b off _ (fun _ _ => undef) (fun i j hi => by rw [hz0] at hi; omega) (fun i j hi => by rw [hz0] at hi; omega) (fun i j hi => by rw [hz0] at hi; omega) (by omega)
        · rw [if_neg hcl]
          simp only [Option.map_some, addr_add]
          refine .sl nn e' (hh - l).toNat (fun i j => g (i + l.toNat) j) b (off + l.toNat * e') _ (fun i j => val (i + l.toNat) j) (fun i j hi hj => ?_) (fun i j hi hj => hr _ _ (by omega) hj) (fun i j hi hj => hz (i + l.toNat) j (by omega) hj) (by omega)
          rw [show off + l.toNat * e' + i * e' + j = off + (i + l.toNat) * e' + j by rw [Nat.add_mul]; omega]
          exact hc _ _ (by omega) hj
    · exact h.elim
  · rename_i fr hxj
    split at h
    · rename_i l hh hb
      simp only [Cnd.holds] at h
      obtain ⟨_, ⟨rfl, rfl⟩, h⟩ := h
      rw [hxj] at hx
      have hx := rep_v hx
      unfold Oper.wp
      rw [hrun none 0 0 0 0 hx hb (by omega) (by omega) (by omega) (by omega), Oper.upon_value]
      exact hnx ι ow _ [] _ w h hm (rep_mkv _)
    · exact h.elim
  · exact h.elim
end
end Go.Gw
namespace Go.Gw
open Go
set_option linter.unusedVariables false
set_option linter.unusedSimpArgs false
section
variable {P : Program} {cx : Cx} {ι : Nat → Value} {ow : Nat → Option Nat} {s : St} {a : Act} {w : World} {d : Nat}
theorem run_append_into (t ty e : TypeId) (i : TypeInfo) (ht : P.underlying t = some (.slice e)) (hi : P.info? e = some i)
    (g sLen sCap : Nat) (cur : Array Value) (tt : TypeId) (hg : w.heap[g]? = some (.cells cur tt (0, 0)))
    (a : Addr) (m c : Nat) (news : List Value) (hl : news.length = m * i.size) (hnews : ∀ j u, news[j]? = some u → w.cell? (a.add j) = some u) (h1 : ∀ u ∈ news, u.oneCell' = true)
    (hroom : sLen + m ≤ sCap) (hfit : sLen * i.size + news.length ≤ cur.size) :
    (Builtin.append_ #[t, t] ty #[.slice (some ⟨g, 0, none⟩) sLen sCap, .slice (some a) m c]).run P w =
      .ok (.slice (some ⟨g, 0, none⟩) (sLen + m) sCap) (w.setRow g (cur.toList.take (sLen * i.size) ++ news ++ cur.toList.drop (sLen * i.size + news.length)).toArray) := by
  have hf := run_firstCells_some (P := P) w i.size m a m c news hl hnews
  have hst := run_storeCells_at P g (sLen * i.size) tt news 0 cur w hg (by simpa using hfit) h1
  simp only [Nat.add_zero] at hst
  simp [Builtin.append_, run_underlying ht, sizeOf, typeInfo, hi, Builtin.lenOf, hroom, hf, Addr.add_lit, hst]
theorem run_append_nothing (t ty e : TypeId) (i : TypeInfo) (ht : P.underlying t = some (.slice e)) (hi : P.info? e = some i)
    (p : Option Addr) (n cap : Nat) (q : Option Addr) (c : Nat) (hn : n ≤ cap) :
    (Builtin.append_ #[t, t] ty #[.slice p n cap, .slice q 0 c]).run P w = .ok (.slice p n cap) w := by
  have hf : (Builtin.firstCells i.size 0 (.slice q 0 c)).run P w = .ok #[] w := by
    cases q with
    | none => simp [Builtin.firstCells]
    | some a => have := run_firstCells_some (P := P) w i.size 0 a 0 c [] (by simp) (fun j v h => by simp at h); simpa using this
  cases p with
  | none => simp [Builtin.append_, run_underlying ht, sizeOf, typeInfo, hi, Builtin.lenOf, hn, hf]
  | some b => simp [Builtin.append_, run_underlying ht, sizeOf, typeInfo, hi, Builtin.lenOf, hn, hf, storeCells]
def SrcOk (cx : Cx) (ow : Nat → Option Nat) (s : St) (w : World) (esz n : Nat) (g : Nat → Nat → PV) (m : Mode) (dead : List Nat) (v : Value) : Prop :=
  ∃ (pt : Option Addr) (c : Nat) (vals : Nat → Value), v = .slice pt n c ∧ n ≤ c ∧ (0 < n → ∃ ad, pt = some ad ∧ ∀ k, k < n * esz → w.cell? (ad.add k) = some (vals k)) ∧ (∀ k, k < n * esz → (vals k).oneCell' = true) ∧
      ∃ qs : Nat → Option (Nat × Nat), (∀ j ∈ dead, ∃ o, s.obj j = some o) ∧ ∀ (ι' : Nat → Value) (ow' : Nat → Option Nat) (w' : World) (M : Mode) (t sh : Nat) (q' : Nat → Option (Nat × Nat)) (hl' : List (Nat × Nat × Nat)), M.le m →
        (∀ b, zF cx ow b → b < w.heap.size → w'.heap[b]? = w.heap[b]? ∧ zF cx ow' b) → (∀ b, zZ cx ow b → b < w.heap.size → w'.heap[b]? = w.heap[b]? ∧ zZ cx ow' b) →
        (∀ j ∈ dead, ∀ b, b < w.heap.size → ow b = some j → ∀ r, qs b = some r → w'.heap[b]? = w.heap[b]? ∧ (M = .u → ow' b = some t ∧ q' b = some (sh + r.1, r.2)) ∧ (M ≠ .u → zF cx ow' b)) →
        (∀ i j, hole hl' (sh + i) j = none) →
        ∀ i j, i < n → j < esz → EltOk M (zF cx ow') (zZ cx ow') (fun b => ow' b = some t) q' ι' hl' w' (sh + i) j (g i j) (vals (i * esz + j))
theorem src_spec (hm : Models cx ι ow s a w) {esz n : Nat} {scal : Bool} {g : Nat → Nat → PV} {m : Mode} {dead : List Nat} {p : Option Prop} {x : AV} {v : Value} (h0 : 0 < esz) (hr : RepA (zF cx ow) (zZ cx ow) ι w x v)
    (hs : srcOf s.obj esz scal x = some (n, g, m, dead, p)) (hp : opt p) : SrcOk cx ow s w esz n g m dead v := by
  have divmod : ∀ i j, j < esz → (i * esz + j) / esz = i ∧ (i * esz + j) % esz = j := fun i j hj => by
    constructor
    · rw [Nat.add_comm, Nat.add_mul_div_right _ _ h0, Nat.div_eq_of_lt hj, Nat.zero_add]
    · rw [Nat.add_comm, Nat.add_mul_mod_self_right]; exact Nat.mod_eq_of_lt hj
  have undivmod : ∀ k, k < n * esz → k / esz < n ∧ k % esz < esz ∧ k / esz * esz + k % esz = k := fun k hk => by
    refine ⟨by rw [Nat.div_lt_iff_lt_mul h0]; exact hk, Nat.mod_lt _ h0, ?_⟩
    have := Nat.div_add_mod k esz
    rw [Nat.mul_comm] at this
    exact this
  have isV_one : ∀ c : PV, c.isV = true → c.one = true := fun c h => by cases c <;> simp_all [PV.isV]
  have isV_v : ∀ {Z : Nat → Prop} (c : PV) (y : Value), c.isV = true → RepP Z w c y → c = .v y := fun c y h hr => by
    cases c with
    | v x => cases hr; rfl
    | _ => simp [PV.isV] at h
  have isV_u : ∀ {S : Nat → Prop} (c : PV) (y : Value), c.isV = true → RepU w S c y → c = .v y := fun c y h hr => by
    cases c with
    | v x => cases hr; rfl
    | _ => simp [PV.isV] at h
  have flat : ∀ {M : Mode} {F Z S : Nat → Prop} {q : Nat → Option (Nat × Nat)} {ι' : Nat → Value} {hl' : List (Nat × Nat × Nat)} {w' : World} {i j : Nat} {c : PV} {y : Value}, c = .v y → hole hl' i j = none → EltOk M F Z S q ι' hl' w' i j c y := by
    intro M F Z S q ι' hl' w' i j c y hc hh
    subst hc
    cases M with
    | z => exact RepP.v _
    | f => exact RepP.v _
    | u => simp only [EltOk, hh]; exact .v _ _
  have elt_one : ∀ {mm : Mode} {S : Nat → Prop} {q : Nat → Option (Nat × Nat)} {i j : Nat} {c : PV} {y : Value}, EltOk mm (zF cx ow) (zZ cx ow) S q ι [] w i j c y → c.one = true → y.oneCell' = true := by
    intro mm S q i j c y h h1
    cases mm with
    | z => exact (pv_one h h1).1
    | f => exact (pv_one h h1).1
    | u => simp only [EltOk, hole] at h; exact (pv_one (h.toP (Z := fun _ => True) fun _ _ _ => trivial) h1).1
  have elt_v : ∀ {mm : Mode} {S : Nat → Prop} {q : Nat → Option (Nat × Nat)} {i j : Nat} {c : PV} {y : Value}, EltOk mm (zF cx ow) (zZ cx ow) S q ι [] w i j c y → c.isV = true → c = .v y := by
    intro mm S q i j c y h h1
    cases mm with
    | z => exact isV_v c y h1 h
    | f => exact isV_v c y h1 h
    | u => simp only [EltOk, hole] at h; exact isV_u c y h1 h
  unfold srcOf at hs
  split at hs
  · rename_i fr nn e n0 g0
    split at hs
    · rename_i hee
      simp only [beq_iff_eq] at hee
      subst hee
      simp only [Option.some.injEq, Prod.mk.injEq] at hs
      obtain ⟨rfl, rfl, rfl, rfl, rfl⟩ := hs
      rw [rep_p] at hr
      have hone : allOne e n0 g0 := by
        cases scal with
        | true => exact fun i j hi hj => isV_one _ ((show allV e n0 g0 from hp) i j hi hj)
        | false => exact hp
      cases hr with
      | nil => exact ⟨none, 0, fun _ => undef, rfl, Nat.le_refl _, fun h => by omega, fun k hk => by simp at hk, fun _ => none, fun j h => by simp at h, fun ι' ow' w' M t sh q' hl' hM hF hZ _ hh i j hi => by omega⟩
      | emp _ _ _ ad cap => exact ⟨some ad, cap, fun _ => undef, rfl, Nat.zero_le _, fun h => by omega, fun k hk => by simp at hk, fun _ => none, fun j h => by simp at h, fun ι' ow' w' M t sh q' hl' hM hF hZ _ hh i j hi => by omega⟩
      | sl _ _ _ _ b off cap val hc hrr hz hcap =>
        refine ⟨some ⟨b, off, none⟩, cap, fun k => val (k / e) (k % e), rfl, hcap, fun hn => ⟨_, rfl, fun k hk => ?_⟩, fun k hk => ?_, fun _ => none, fun j h => by simp at h, fun ι' ow' w' M t sh q' hl' hM hF hZ _ hh i j hi hj => ?_⟩
        · rw [addr_add]
          obtain ⟨d1, d2, d3⟩ := undivmod k hk
          have := hc _ _ d1 d2
          rwa [show off + k / e * e + k % e = off + k by omega] at this
        · obtain ⟨d1, d2, d3⟩ := undivmod k hk
          exact (pv_one (hrr _ _ d1 d2) (hone _ _ d1 d2)).1
        · obtain ⟨d1, d2⟩ := divmod i j hj
          simp only [d1, d2]
          have h1 := hrr i j hi hj
          cases scal with
          | true => exact flat (isV_v _ _ ((show allV e n0 g0 from hp) i j hi hj) h1) (hh i j)
          | false =>
            cases fr with
            | true =>
              cases M with
              | u => exact hM.elim
              | f => exact RepP.mono hF h1
              | z => exact RepP.mono (fun b hb hl => ⟨(hF b hb hl).1, zFZ (hF b hb hl).2⟩) h1
            | false =>
              cases M with
              | u => exact hM.elim
              | f => exact hM.elim
              | z => exact RepP.mono hZ h1
    · cases hs
  · simp only [Option.some.injEq, Prod.mk.injEq] at hs
    obtain ⟨rfl, rfl, rfl, rfl, rfl⟩ := hs
    have := rep_v hr
    subst this
    exact ⟨none, 0, fun _ => undef, rfl, Nat.le_refl _, fun h => by omega, fun k hk => by simp at hk, fun _ => none, fun j h => by simp at h, fun ι' ow' w' M t sh q' hl' hM hF hZ _ hh i j hi => by omega⟩
  · rename_i j0
    split at hs
    · rename_i m0 nn e n0 g0 hob
      split at hs
      · rename_i hee
        simp only [beq_iff_eq] at hee
        subst hee
        cases hr
        have common : ∀ (mm : Mode) (dd : List Nat), (mm = .u ∧ dd = [] ∧ allV e n0 g0) ∨ (mm = m0 ∧ dd = [j0] ∧ allOne e n0 g0) → SrcOk cx ow s w e n0 g0 mm dd (ι j0) := by
          intro mm dd hcs
          have hone : allOne e n0 g0 := by
            rcases hcs with ⟨_, _, h⟩ | ⟨_, _, h⟩
            · exact fun i j hi hj => isV_one _ (h i j hi hj)
            · exact h
          have hdead : ∀ j ∈ dd, ∃ o, s.obj j = some o := fun j h => by
            rcases hcs with ⟨_, rfl, _⟩ | ⟨_, rfl, _⟩
            · simp at h
            · simp at h; subst h; exact ⟨_, hob⟩
          have und : ∀ k, k < n0 * e → k / e < n0 ∧ k % e < e ∧ k / e * e + k % e = k := fun k hk => by
            refine ⟨by rw [Nat.div_lt_iff_lt_mul h0]; exact hk, Nat.mod_lt _ h0, ?_⟩
            have := Nat.div_add_mod k e
            rw [Nat.mul_comm] at this
            exact this
          rcases hm.obs j0 _ hob with ⟨rfl, hcase⟩ | ⟨b, cap, c, tt, q, h4, h5, h6, h7, h8, hq, h9⟩
          · rcases hcase with ⟨_, e2⟩ | ⟨b, off, e2⟩
            · rw [e2]
              exact ⟨none, 0, fun _ => undef, rfl, Nat.le_refl _, fun h => by omega, fun k hk => by simp at hk, fun _ => none, hdead, fun ι' ow' w' M t sh q' hl' hM hF hZ _ hh i j hi => by omega⟩
            · rw [e2]
              exact ⟨_, 0, fun _ => undef, rfl, Nat.le_refl _, fun h => by omega, fun k hk => by simp at hk, fun _ => none, hdead, fun ι' ow' w' M t sh q' hl' hM hF hZ _ hh i j hi => by omega⟩
          · rw [h4]
            refine ⟨_, cap, fun k => c.getD k undef, rfl, h7, fun hn => ⟨_, rfl, fun k hk => ?_⟩, fun k hk => ?_, q, hdead, fun ι' ow' w' M t sh q' hl' hM hF hZ hdd hh i j hi hj => ?_⟩
            · rw [addr_add, Nat.zero_add]
              have := Nat.mul_le_mul_right e h7
              exact cell_of_row h6 (by omega)
            · obtain ⟨d1, d2, d3⟩ := und k hk
              have := elt_one (h9 _ _ d1 d2) (hone _ _ d1 d2)
              rwa [d3] at this
            · have h10 := h9 i j hi hj
              rcases hcs with ⟨rfl, rfl, hv⟩ | ⟨rfl, rfl, _⟩
              · exact flat (elt_v h10 (hv i j hi hj)) (hh i j)
              · refine EltOk.weak hM (fun _ => rfl) hF hZ (fun _ h => zFZ h) (fun _ h => zFZ h) (fun b1 hb1 hqb hl1 => ?_) (fun d' hd' => by simp [hole] at hd') (fun _ => (hh i j)) h10
                exact hdd j0 (List.mem_singleton.2 rfl) b1 hl1 hb1 _ hqb
        split at hs
        · simp only [Option.some.injEq, Prod.mk.injEq] at hs
          obtain ⟨rfl, rfl, rfl, rfl, rfl⟩ := hs
          exact common _ _ (.inl ⟨rfl, rfl, hp⟩)
        · simp only [Option.some.injEq, Prod.mk.injEq] at hs
          obtain ⟨rfl, rfl, rfl, rfl, rfl⟩ := hs
          exact common _ _ (.inr ⟨rfl, rfl, hp⟩)
      · cases hs
    · cases hs
  · cases hs
end
end Go.Gw
namespace Go.Gw
open Go
set_option linter.unusedVariables false
set_option linter.unusedSimpArgs false
theorem dels_append (l1 l2 : List Nat) : ∀ s : St, s.dels (l1 ++ l2) = (s.dels l1).dels l2 := by
  induction l1 with
  | nil => intro s; rfl
  | cons j l ih => intro s; exact ih (s.delOb j)
section
variable {P : Program} {cx : Cx} {ι : Nat → Value} {ow : Nat → Option Nat} {s : St} {a : Act} {w : World} {d : Nat}
theorem Models.emptyRow (hm : Models cx ι ow s a w) (hd : s.noid d) (dead : List Nat) {p : Option Addr} {m : Mode} {nn : Bool} {esz : Nat} {g : Nat → Nat → PV} {hl : List (Nat × Nat × Nat)} (h1 : p = none → nn = false) (h2 : ∀ ad, p = some ad → ad.spot = none) :
    ∃ ow', Models cx (fun t => if t = d then .slice p 0 0 else ι t) ow' ((s.dels dead).setOb d (.row m nn esz 0 g hl)) a w := by
  have hm1 := hm.dels dead
  refine ⟨fun b => match rel ow dead b with | some i => if i = d then none else some i | none => none, hm1.change rfl (fun t => ?_) (fun b _ hb => ⟨by simp [hb], rfl⟩) (fun b t ht => ?_) rfl rfl rfl (Nat.le_refl _) (Nat.le_refl _) (fun t o ht => ?_)⟩
  · by_cases ht : t = d
    · exact .inr (ht ▸ ⟨fun t => by rw [get_dels]; exact hd.1 t, fun i o hi => by rw [obj_dels] at hi; split at hi; cases hi; exact hd.2.1 i o hi, hd.2.2⟩)
    · exact .inl (by simp [ht])
  · split at ht
    · rename_i i hi
      split at ht
      · cases ht
      · cases ht
        obtain ⟨g1, g2⟩ := hm1.dom b t hi
        exact ⟨by rw [St.obj_setOb]; split; rfl; exact g1, g2⟩
    · cases ht
  · rw [St.obj_setOb] at ht
    split at ht
    · rename_i hdt
      subst hdt
      cases ht
      refine .inr fun _ _ _ => .inl ⟨rfl, ?_⟩
      simp only [if_true]
      cases p with
      | none => exact .inl ⟨h1 rfl, rfl⟩
      | some ad =>
        obtain ⟨b, off, sp⟩ := ad
        have := h2 _ rfl
        simp only at this
        subst this
        exact .inr ⟨b, off, rfl⟩
    · rename_i hdt
      refine .inl ⟨if_neg fun e => hdt e.symm, ht, fun b _ hb => ⟨?_, rfl⟩⟩
      simp only [hb]
      rw [if_neg fun e => hdt e.symm]
theorem own_self {F Z : Nat → Prop} {ι : Nat → Value} {w : World} {d : Nat} (x : Value) : RepA F Z (fun t => if t = d then x else ι t) w (.own d) x := by
  have := RepA.own (F := F) (Z := Z) (ι := fun t => if t = d then x else ι t) (w := w) d
  simp only [if_true] at this
  exact this
theorem cellAt {w : World} {b : Nat} {c : Array Value} {tt : TypeId} (h : w.heap[b]? = some (.cells c tt (0, 0))) {n : Nat} (hn : n ≤ c.size) : ∀ j v, (c.toList.take n)[j]? = some v → w.cell? ((⟨b, 0, none⟩ : Addr).add j) = some v := by
  intro j v hj
  rw [addr_add, Nat.zero_add]
  rw [List.getElem?_take] at hj
  split at hj
  · rename_i hlt
    rw [cell_of_row h (by omega)]
    simp only [Array.getElem?_toList] at hj
    simp [Array.getD_eq_getD_getElem?, hj]
  · cases hj
theorem Models.grown (hm : Models cx ι ow s a w) (hd : s.noid d) {dead : List Nat} {j : Nat} {o0 : Option (Mode × (Nat → Nat → PV) × List (Nat × Nat × Nat) × (Nat → Option (Nat × Nat)))} {w' : World} {B cap n n' esz : Nat} {arr : Array Value} {tt : TypeId} {m m' M : Mode} {nn : Bool}
    {g g' : Nat → Nat → PV} {hl : List (Nat × Nat × Nat)} {q qs : Nat → Option (Nat × Nat)} {olds news : Nat → Value} (hg : Grows w w') (hB : w.heap.size ≤ B) (hb : w'.heap[B]? = some (.cells arr tt (0, 0)))
    (hM : M.le m) (hM' : M.le m') (hnil : M ≠ .u → hl = []) (hjd : j ∉ dead) (hcap : n + n' ≤ cap) (hsz : cap * esz ≤ arr.size) (hhl : ∀ x ∈ hl, x.1 < n) (hhd : ∀ x ∈ hl, x.2.2 ≠ d)
    (hold : ∀ p r, p < n → r < esz → EltOk m (zF cx ow) (zZ cx ow) (fun b => ow b = some j) q ι hl w p r (g p r) (olds (p * esz + r)))
    (hsrc : ∀ (ι' : Nat → Value) (ow' : Nat → Option Nat) (w' : World) (M : Mode) (t sh : Nat) (q' : Nat → Option (Nat × Nat)) (hl' : List (Nat × Nat × Nat)), M.le m' →
        (∀ b, zF cx ow b → b < w.heap.size → w'.heap[b]? = w.heap[b]? ∧ zF cx ow' b) → (∀ b, zZ cx ow b → b < w.heap.size → w'.heap[b]? = w.heap[b]? ∧ zZ cx ow' b) →
        (∀ j ∈ dead, ∀ b, b < w.heap.size → ow b = some j → ∀ r, qs b = some r → w'.heap[b]? = w.heap[b]? ∧ (M = .u → ow' b = some t ∧ q' b = some (sh + r.1, r.2)) ∧ (M ≠ .u → zF cx ow' b)) →
        (∀ i j, hole hl' (sh + i) j = none) →
        ∀ i j, i < n' → j < esz → EltOk M (zF cx ow') (zZ cx ow') (fun b => ow' b = some t) q' ι' hl' w' (sh + i) j (g' i j) (news (i * esz + j)))
    (harr1 : ∀ k, k < n * esz → arr.getD k undef = olds k) (harr2 : ∀ k, k < n' * esz → arr.getD (n * esz + k) undef = news k) :
    Models cx (fun t => if t = d then .slice (some ⟨B, 0, none⟩) (n + n') cap else ι t) (owNew ow B d (dead ++ [j]) M) ((s.dels (dead ++ [j])).setOb d (.row M nn esz (n + n') (fun a b => if a < n then g a b else g' (a - n) b) hl)) a w' := by
  refine hm.newObj hd hg hB (.slice (some ⟨B, 0, none⟩) (n + n') cap) _ fun hF hZ => ?_
  let q' : Nat → Option (Nat × Nat) := fun b => if b = B then none else match ow b with
    | some t => if t = j then q b else (qs b).map fun r => (n + r.1, r.2)
    | none => none
  refine .inr ⟨B, cap, arr, tt, q', rfl, by simp [owNew], hb, hcap, hsz, by simp [q'], fun p r hp hr => ?_⟩
  have hne : ∀ b, b < w.heap.size → b ≠ B := fun b h => by omega
  by_cases hpn : p < n
  · dsimp only
    rw [if_pos hpn, harr1 _ (idx_lt hpn hr)]
    refine EltOk.weak hM hnil hF hZ (fun _ h => zFZ h) (fun _ h => zFZ h) (fun b hb hqb hl1 => ?_) (fun d' hd' => ?_) (fun _ => rfl) (hold p r hpn hr)
    · have hb : ow b = some j := hb
      refine ⟨hg.same hl1, fun hu => ⟨?_, ?_⟩, fun hu => ⟨?_, (hm.dom b j hb).2⟩⟩
      · simp [owNew, hne b hl1, hb, hu]
      · simp only [q', hb]
        rw [if_neg (hne b hl1), if_pos trivial]; exact hqb
      · simp [owNew, hne b hl1, hb, hu]
    · rw [if_neg (hhd _ (hole_mem hd'))]
  · dsimp only
    rw [if_neg hpn]
    have h1 := hsrc (fun t => if t = d then .slice (some ⟨B, 0, none⟩) (n + n') cap else ι t) (owNew ow B d (dead ++ [j]) M) w' M d n q' hl hM' hF hZ (fun j' hj' b hl1 hb r' hr' => ?_) (fun i c => hole_none fun x hx e => by have := hhl x hx; omega) (p - n) r (by omega) hr
    · rw [show n + (p - n) = p by omega] at h1
      rw [show p * esz + r = n * esz + ((p - n) * esz + r) by rw [← Nat.add_assoc, ← Nat.add_mul, show n + (p - n) = p by omega]]
      rw [harr2 _ (idx_lt (by omega) hr)]
      exact h1
    · have hjj : j' ≠ j := fun e => hjd (e ▸ hj')
      refine ⟨hg.same hl1, fun hu => ⟨?_, ?_⟩, fun hu => ⟨?_, (hm.dom b j' hb).2⟩⟩
      · simp [owNew, hne b hl1, hb, hu, hj']
      · simp only [q', hb]
        rw [if_neg (hne b hl1), if_neg hjj, hr']; rfl
      · simp [owNew, hne b hl1, hb, hu, hj']
theorem Models.filled (hm : Models cx ι ow s a w) (hd : s.noid d) {dead : List Nat} {j b0 : Nat} {o0 : Ob} {w' : World} {cap n n' esz : Nat} {arr : Array Value} {tt : TypeId} {m m' M : Mode} {nn : Bool}
    {g g' : Nat → Nat → PV} {hl : List (Nat × Nat × Nat)} {q qs : Nat → Option (Nat × Nat)} {olds news : Nat → Value} (ho : s.obj j = some o0) (hjdd : j ≠ d) (hb0 : ow b0 = some j) (hq0 : q b0 = none)
    (hos : w'.os = w.os) (htape : w'.tape = w.tape) (hout : w'.output = w.output) (hdrawn : w.drawn ≤ w'.drawn) (hsize : w.heap.size ≤ w'.heap.size) (hsame : ∀ b, b ≠ b0 → w'.heap[b]? = w.heap[b]?) (hb : w'.heap[b0]? = some (.cells arr tt (0, 0)))
    (hM : M.le m) (hM' : M.le m') (hnil : M ≠ .u → hl = []) (hjd : j ∉ dead) (hcap : n + n' ≤ cap) (hsz : cap * esz ≤ arr.size) (hhl : ∀ x ∈ hl, x.1 < n) (hhd : ∀ x ∈ hl, x.2.2 ≠ d)
    (hold : ∀ p r, p < n → r < esz → EltOk m (zF cx ow) (zZ cx ow) (fun b => ow b = some j) q ι hl w p r (g p r) (olds (p * esz + r)))
    (hsrc : ∀ (ι' : Nat → Value) (ow' : Nat → Option Nat) (w' : World) (M : Mode) (t sh : Nat) (q' : Nat → Option (Nat × Nat)) (hl' : List (Nat × Nat × Nat)), M.le m' →
        (∀ b, zF cx ow b → b < w.heap.size → w'.heap[b]? = w.heap[b]? ∧ zF cx ow' b) → (∀ b, zZ cx ow b → b < w.heap.size → w'.heap[b]? = w.heap[b]? ∧ zZ cx ow' b) →
        (∀ j ∈ dead, ∀ b, b < w.heap.size → ow b = some j → ∀ r, qs b = some r → w'.heap[b]? = w.heap[b]? ∧ (M = .u → ow' b = some t ∧ q' b = some (sh + r.1, r.2)) ∧ (M ≠ .u → zF cx ow' b)) →
        (∀ i j, hole hl' (sh + i) j = none) →
        ∀ i j, i < n' → j < esz → EltOk M (zF cx ow') (zZ cx ow') (fun b => ow' b = some t) q' ι' hl' w' (sh + i) j (g' i j) (news (i * esz + j)))
    (harr1 : ∀ k, k < n * esz → arr.getD k undef = olds k) (harr2 : ∀ k, k < n' * esz → arr.getD (n * esz + k) undef = news k) :
    Models cx (fun t => if t = d then .slice (some ⟨b0, 0, none⟩) (n + n') cap else ι t) (owPut ow j d b0 dead M) (((s.dels dead).delOb j).setOb d (.row M nn esz (n + n') (fun a b => if a < n then g a b else g' (a - n) b) hl)) a w' := by
  refine hm.putRow ho hb0 (.inr hd) hjd (.slice (some ⟨b0, 0, none⟩) (n + n') cap) (fun e => (hjdd e.symm).elim) hos htape hout hdrawn hsize (fun b _ => hsame b) _ fun hF hZ _ => ?_
  let q' : Nat → Option (Nat × Nat) := fun b => match ow b with
    | some t => if t ∈ dead then (qs b).map fun r => (n + r.1, r.2) else q b
    | none => q b
  refine .inr ⟨b0, cap, arr, tt, q', rfl, ?_, hb, hcap, hsz, ?_, fun p r hp hr => ?_⟩
  · simp only [owPut, hb0]; rw [if_neg hjd]; simp
  · simp only [q', hb0]; rw [if_neg hjd]; exact hq0
  by_cases hpn : p < n
  · dsimp only
    rw [if_pos hpn, harr1 _ (idx_lt hpn hr)]
    refine EltOk.weak hM hnil hF hZ (fun _ h => zFZ h) (fun _ h => zFZ h) (fun b hb hqb hl1 => ?_) (fun d' hd' => ?_) (fun _ => rfl) (hold p r hpn hr)
    · have hb : ow b = some j := hb
      have hne : b ≠ b0 := fun e => by rw [e, hq0] at hqb; cases hqb
      refine ⟨hsame b hne, fun hu => ⟨?_, ?_⟩, fun hu => ⟨?_, (hm.dom b j hb).2⟩⟩
      · simp only [owPut, hb]; rw [if_neg hjd]; simp [hu]
      · simp only [q', hb]
        rw [if_neg hjd]; exact hqb
      · simp only [owPut, hb]; rw [if_neg hjd]; simp [hu, hne]
    · rw [if_neg (hhd _ (hole_mem hd'))]
  · dsimp only
    rw [if_neg hpn]
    have h1 := hsrc (fun t => if t = d then .slice (some ⟨b0, 0, none⟩) (n + n') cap else ι t) (owPut ow j d b0 dead M) w' M d n q' hl hM' hF hZ (fun j' hj' b hl1 hb r' hr' => ?_) (fun i c => hole_none fun x hx e => by have := hhl x hx; omega) (p - n) r (by omega) hr
    · rw [show n + (p - n) = p by omega] at h1
      rw [show p * esz + r = n * esz + ((p - n) * esz + r) by rw [← Nat.add_assoc, ← Nat.add_mul, show n + (p - n) = p by omega]]
      rw [harr2 _ (idx_lt (by omega) hr)]
      exact h1
    · have hjj : j' ≠ j := fun e => hjd (e ▸ hj')
      have hne : b ≠ b0 := fun e => by rw [e, hb0] at hb; cases hb; exact hjj rfl
      refine ⟨hsame b hne, fun hu => ⟨?_, ?_⟩, fun hu => ⟨?_, (hm.dom b j' hb).2⟩⟩
      · simp only [owPut, hb]; rw [if_pos hj', if_pos hu]
      · simp only [q', hb]
        rw [if_pos hj', hr']; rfl
      · simp only [owPut, hb]; rw [if_pos hj', if_neg hu]
theorem Models.split (hm : Models cx ι ow s a w) (hd : s.noid d) {j : Nat} {nn : Bool} {esz n k : Nat} {g : Nat → Nat → PV} (hob : s.obj j = some (.row .u nn esz n g [])) (hjd : j ≠ d) (hk : k ≤ n) (h0 : 0 < esz)
    (hone : allOne esz (n - k) fun a b => g (a + k) b) :
    ∃ ow2, Models cx (fun t => if t = d then .slice none 0 0 else ι t) ow2 ((s.setOb j (.row .u nn esz n (fun a b => if a < k then g a b else .any) [])).setOb d (.row .u false esz 0 (fun _ _ => .any) [])) a w ∧
      SrcOk cx ow2 ((s.setOb j (.row .u nn esz n (fun a b => if a < k then g a b else .any) [])).setOb d (.row .u false esz 0 (fun _ _ => .any) [])) w esz (n - k) (fun a b => g (a + k) b) .u [d] (viewV esz k (ι j)) := by
  have key : ∀ q : Nat → Option (Nat × Nat), (∀ ow2 : Nat → Option Nat, (∀ b, ow2 b = match ow b with
        | some t => if t = j then (match q b with | some r => if k ≤ r.1 then some d else some j | none => some j) else some t
        | none => none) →
      ObOk (zF cx ow2) (zZ cx ow2) (fun b => ow2 b = some j) (fun t => if t = d then .slice none 0 0 else ι t) w (ι j) (.row .u nn esz n (fun a b => if a < k then g a b else .any) []) ∧
      SrcOk cx ow2 ((s.setOb j (.row .u nn esz n (fun a b => if a < k then g a b else .any) [])).setOb d (.row .u false esz 0 (fun _ _ => .any) [])) w esz (n - k) (fun a b => g (a + k) b) .u [d] (viewV esz k (ι j))) →
      ∃ ow2, Models cx (fun t => if t = d then .slice none 0 0 else ι t) ow2 ((s.setOb j (.row .u nn esz n (fun a b => if a < k then g a b else .any) [])).setOb d (.row .u false esz 0 (fun _ _ => .any) [])) a w ∧
      SrcOk cx ow2 ((s.setOb j (.row .u nn esz n (fun a b => if a < k then g a b else .any) [])).setOb d (.row .u false esz 0 (fun _ _ => .any) [])) w esz (n - k) (fun a b => g (a + k) b) .u [d] (viewV esz k (ι j)) := by
    intro q h
    let ow2 : Nat → Option Nat := fun b => match ow b with
        | some t => if t = j then (match q b with | some r => if k ≤ r.1 then some d else some j | none => some j) else some t
        | none => none
    obtain ⟨h1, h2⟩ := h ow2 fun b => rfl
    refine ⟨ow2, hm.change rfl (fun t => ?_) (fun b _ hb => ⟨by simp [ow2, hb], rfl⟩) (fun b t ht => ?_) rfl rfl rfl (Nat.le_refl _) (Nat.le_refl _) (fun t o ht => ?_), h2⟩
    · by_cases ht : t = d
      · exact .inr (ht ▸ hd)
      · exact .inl (by simp [ht])
    · have hdd : (((s.setOb j (.row .u nn esz n (fun a b => if a < k then g a b else .any) [])).setOb d (.row .u false esz 0 (fun _ _ => .any) [])).obj d).isSome = true := by rw [St.obj_setOb, if_pos rfl]; rfl
      have hjj : (((s.setOb j (.row .u nn esz n (fun a b => if a < k then g a b else .any) [])).setOb d (.row .u false esz 0 (fun _ _ => .any) [])).obj j).isSome = true := by rw [St.obj_setOb]; split; rfl; rw [St.obj_setOb, if_pos rfl]; rfl
      simp only [ow2] at ht
      split at ht
      · rename_i t' ht'
        obtain ⟨g1, g2⟩ := hm.dom b t' ht'
        split at ht
        · rename_i e
          split at ht
          · split at ht
            · cases ht; exact ⟨hdd, g2⟩
            · cases ht; exact ⟨hjj, g2⟩
          · cases ht; exact ⟨hjj, g2⟩
        · cases ht
          refine ⟨?_, g2⟩
          rw [St.obj_setOb]; split
          · rfl
          · rw [St.obj_setOb]; split
            · rfl
            · exact g1
      · cases ht
    · rw [St.obj_setOb] at ht
      split at ht
      · rename_i hdt
        subst hdt
        cases ht
        refine .inr fun _ _ _ => .inl ⟨rfl, .inl ⟨rfl, ?_⟩⟩
        simp
      · rename_i hdt
        rw [St.obj_setOb] at ht
        split at ht
        · rename_i hjt
          subst hjt
          cases ht
          refine .inr fun _ _ _ => ?_
          have : (if j = d then Value.slice none 0 0 else ι j) = ι j := if_neg hjd
          simp only [this]
          exact h1
        · rename_i hjt
          refine .inl ⟨if_neg fun e => hdt e.symm, ht, fun b _ hb => ⟨?_, rfl⟩⟩
          simp only [ow2, hb]
          rw [if_neg fun e => hjt e.symm]
  have dead1 : ∀ i ∈ [d], ∃ o, ((s.setOb j (.row .u nn esz n (fun a b => if a < k then g a b else .any) [])).setOb d (.row .u false esz 0 (fun _ _ => .any) [])).obj i = some o := fun i hi => by
    simp only [List.mem_singleton] at hi
    subst hi
    exact ⟨_, by rw [St.obj_setOb, if_pos rfl]⟩
  rcases hm.obs j _ hob with ⟨rfl, hcase⟩ | ⟨b, cap, c, tt, q, h4, h5, h6, h7, h8, hq, h9⟩
  · have hk0 : k = 0 := by omega
    subst hk0
    refine key (fun _ => none) fun ow2 how => ⟨.inl ⟨rfl, hcase⟩, ?_⟩
    have : ∃ p, viewV esz 0 (ι j) = .slice p 0 0 := by
      rcases hcase with ⟨_, e2⟩ | ⟨b, off, e2⟩ <;> rw [e2] <;> exact ⟨_, rfl⟩
    obtain ⟨p, hp⟩ := this
    rw [hp]
    exact ⟨p, 0, fun _ => undef, rfl, Nat.le_refl _, fun h => by omega, fun k hk => by simp at hk, fun _ => none, dead1, fun ι' ow' w' M t sh q' hl' hM hF hZ _ hh i j hi => by omega⟩
  · refine key q fun ow2 how => ⟨.inr ⟨b, cap, c, tt, q, h4, ?_, h6, h7, h8, hq, fun p r hp hr => ?_⟩, ?_⟩
    · show ow2 b = some j
      rw [how]
      have h5' : ow b = some j := h5
      simp only [h5', hq, if_true]
    · simp only [EltOk, hole]
      split
      · rename_i hpk
        have h10 := h9 p r hp hr
        simp only [EltOk, hole] at h10
        refine h10.mono fun b1 hb1 _ => ⟨rfl, ?_, hb1.2⟩
        have hb2 : ow b1 = some j := hb1.1
        rw [how]
        simp only [hb2, hb1.2, if_true]
        rw [if_neg (by omega)]
      · exact .any _ _
    · rw [h4]
      have und : ∀ x, x < (n - k) * esz → x / esz < n - k ∧ x % esz < esz ∧ x / esz * esz + x % esz = x := fun x hx => by
        refine ⟨by rw [Nat.div_lt_iff_lt_mul h0]; exact hx, Nat.mod_lt _ h0, ?_⟩
        have := Nat.div_add_mod x esz
        rw [Nat.mul_comm] at this
        exact this
      have hsz : ∀ x, x < (n - k) * esz → k * esz + x < c.size := fun x hx => by
        have h1 : (n - k) * esz + k * esz = n * esz := by rw [← Nat.add_mul]; congr 1; omega
        have := Nat.mul_le_mul_right esz h7
        omega
      refine ⟨_, cap - k, fun x => c.getD (k * esz + x) undef, rfl, by omega, fun hn => ⟨⟨b, k * esz, none⟩, ?_, fun x hx => ?_⟩, fun x hx => ?_, fun b => match q b with | some r => some (r.1 - k, r.2) | none => none, dead1, fun ι' ow' w' M t sh q' hl' hM hF hZ hdd hh i r hi hr => ?_⟩
      · rw [if_neg (by omega)]
        simp [addr_add]
      · rw [addr_add]
        exact cell_of_row h6 (hsz x hx)
      · obtain ⟨d1, d2, d3⟩ := und x hx
        have h10 := h9 (x / esz + k) (x % esz) (by omega) d2
        simp only [EltOk, hole] at h10
        have := (pv_one (h10.toP (Z := fun _ => True) fun _ _ _ => trivial) (hone _ _ d1 d2)).1
        rwa [show (x / esz + k) * esz + x % esz = k * esz + x by rw [Nat.add_mul]; omega] at this
      · have h10 := h9 (i + k) r (by omega) hr
        rw [show (i + k) * esz + r = k * esz + (i * esz + r) by rw [Nat.add_mul]; omega] at h10
        have how0 : ∀ b, ow b = none → ow2 b = none := fun b hb => by rw [how, hb]
        refine EltOk.weak hM (fun _ => rfl) (fun b hb hl => hF b ⟨how0 b hb.1, hb.2⟩ hl) (fun b hb hl => hZ b ⟨how0 b hb.1, hb.2⟩ hl) (fun _ h => zFZ h) (fun _ h => zFZ h) (fun b1 hb1 hqb hl1 => ?_) (fun d' hd' => by simp [hole] at hd') (fun _ => (hh i r).trans rfl) h10
        have hb2 : ow b1 = some j := hb1
        refine hdd d (List.mem_singleton.2 rfl) b1 hl1 ?_ (i, r) ?_
        · rw [how]
          simp only [hb2, hqb, if_true]
          rw [if_pos (by omega)]
        · simp [hqb]
end
end Go.Gw
