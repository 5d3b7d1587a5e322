/- Stores; with no condition. -/
import Derived.Test.YtopnhnnfobbocaaDoorGw11
namespace Go.Gw
open Go
set_option linter.unusedVariables false
set_option linter.unusedSimpArgs false

theorem hole_keep {f : Nat × Nat × Nat → Bool} {a b : Nat} : ∀ {hl : List (Nat × Nat × Nat)}, (∀ x ∈ hl, x.1 = a → x.2.1 = b → f x = true) → hole (hl.filter f) a b = hole hl a b
  | [], _ => rfl
  | (k, j, d) :: r, h => by
    have ih := hole_keep (f := f) (a := a) (b := b) (hl := r) fun x hx => h x (List.mem_cons_of_mem _ hx)
    simp only [List.filter_cons]
    split
    · simp only [hole, ih]
    · rename_i hf
      simp only [hole]
      rw [if_neg (fun e => hf (h (k, j, d) List.mem_cons_self e.1.symm e.2.symm)), ih]

theorem hole_gone {f : Nat × Nat × Nat → Bool} {a b : Nat} {hl : List (Nat × Nat × Nat)} (h : ∀ x ∈ hl, x.2.1 = b → f x = false) : hole (hl.filter f) a b = none := by
  cases hh : hole (hl.filter f) a b with
  | none => rfl
  | some d =>
    have := List.mem_filter.1 (hole_mem hh)
    have h2 := h _ this.1 rfl
    rw [h2] at this
    cases this.2

theorem hole_none {a b : Nat} {hl : List (Nat × Nat × Nat)} (h : ∀ x ∈ hl, ¬ (x.1 = a ∧ x.2.1 = b)) : hole hl a b = none := by
  cases hh : hole hl a b with
  | none => rfl
  | some d => exact (h _ (hole_mem hh) ⟨rfl, rfl⟩).elim

section
variable {P : Program} {cx : Cx} {ι : Nat → Value} {ow : Nat → Option Nat} {s : St} {a : Act} {w : World} {d : Nat}

/-- The cells of a row behind a store. -/
theorem store_cells (hm : Models cx ι ow s a w) {i k off n b nl esz : Nat} {m m' : Mode} {g : Nat → Nat → PV} {hl : List (Nat × Nat × Nat)} {cur : Array Value} {q : Nat → Option (Nat × Nat)} {y : AV} {yv : Value} {xs : List (Nat × Nat × PV)} {mv : List (Nat × (Nat × Nat))}
    {w' : World} {ow' : Nat → Option Nat} {ι' : Nat → Value}
    (hw : ∀ b', b' ≠ b → w'.heap[b']? = w.heap[b']?) (hι' : ∀ k, ι' k = ι k) (hown : ow' = owPut ow i i b (mv.map Prod.fst) (m.min m'))
    (h0 : ow b = some i) (hq : q b = none) (hcur : k * esz + off + n ≤ cur.size) (hk : k < nl) (hle : off + n ≤ esz) (hlen : y.cells.length = n) (hvn : yv.cells.size = n)
    (h10 : ∀ j e, y.cells[j]? = some e → RepA (zF cx ow) (zZ cx ow) ι w e (yv.cells.getD j undef)) (hpcl : pcl s.obj (posn k off y.cells) = some (m', xs, mv))
    (hnd : nodupB (mv.map Prod.fst) = true) (hid : i ∉ mv.map Prod.fst) (hnil : m.min m' ≠ .u → hl = []) (hkh : ∀ z ∈ hl, off ≤ z.2.1 → z.2.1 < off + n → k = z.1)
    (h11 : ∀ p r, p < nl → r < esz → EltOk m (zF cx ow) (zZ cx ow) (fun b => ow b = some i) q ι hl w p r (g p r) (cur.getD (p * esz + r) undef))
    (hF : ∀ b, zF cx ow b → b < w.heap.size → w'.heap[b]? = w.heap[b]? ∧ zF cx ow' b) (hZ : ∀ b, zZ cx ow b → b < w.heap.size → w'.heap[b]? = w.heap[b]? ∧ zZ cx ow' b) {p r : Nat} (hp' : p < nl) (hr' : r < esz) :
    EltOk (m.min m') (zF cx ow') (zZ cx ow') (fun b => ow' b = some i) (fun b' => match ow b' with | some t => if t ∈ mv.map Prod.fst then posOf mv t else q b' | none => q b') ι'
      (hl.filter fun z => !(decide (off ≤ z.2.1) && decide (z.2.1 < off + n))) w' p r (setG xs g p r) ((cur.toList.take (k * esz + off) ++ yv.cells.toList ++ cur.toList.drop (k * esz + off + n)).toArray.getD (p * esz + r) undef) := by
  subst hown
  have hvl : yv.cells.toList.length = n := by simpa using hvn
  have hset := posn_set (cx := cx) (ι := ι) (ow := ow) (s := s) (w := w) (M := m.min m') (E := fun a' b' c v => a' < nl → b' < esz → EltOk (m.min m') (zF cx (owPut ow i i b (mv.map Prod.fst) (m.min m'))) (zZ cx (owPut ow i i b (mv.map Prod.fst) (m.min m')))
      (fun b1 => owPut ow i i b (mv.map Prod.fst) (m.min m') b1 = some i) (fun b' => match ow b' with | some t => if t ∈ mv.map Prod.fst then posOf mv t else q b' | none => q b') ι' (hl.filter fun z => !(decide (off ≤ z.2.1) && decide (z.2.1 < off + n))) w' a' b' c v) (k := k) (mvAll := mv)
    (fun j => off ≤ j ∧ j < off + n) (fun c v m1 x1 dd j hin r1 r2 r3 r4 hk' hj' => ?_) y.cells off (fun j => yv.cells.getD j undef) m' xs mv g (fun a' b' => cur.getD (a' * esz + b') undef) (fun j c hj => h10 j c hj) hpcl (Mode.min_le2 _ _) (fun z hz => hz) (fun a' b' => ?_) (fun b h1 h2 => ⟨h1, by omega⟩) p r hp' hr'
  · rw [show k * esz + off + n = k * esz + off + yv.cells.toList.length by rw [hvl], getD_splice _ _ _ _ (by rw [hvl]; simpa using hcur), hvl]
    have pos : (k * esz + off ≤ p * esz + r ∧ p * esz + r < k * esz + off + n) ↔ (p = k ∧ off ≤ r ∧ r < off + n) := by
      constructor
      · rintro ⟨g1, g2⟩
        have hpk := (row_pos (a := p) (b := r) (k := k) (by omega : 0 < esz) hr').1 ⟨by omega, by omega⟩
        subst hpk
        omega
      · rintro ⟨rfl, g1, g2⟩; omega
    rw [hlen] at hset
    by_cases hw : p = k ∧ off ≤ r ∧ r < off + n
    · rw [if_pos (pos.2 hw)]
      rw [if_pos hw] at hset
      obtain ⟨rfl, g1, g2⟩ := hw
      rw [show p * esz + r - (p * esz + off) = r - off by omega]
      rwa [show yv.cells.toList.getD (r - off) undef = yv.cells.getD (r - off) undef by simp [List.getD, Array.getD_eq_getD_getElem?]]
    · rw [if_neg (fun e => hw (pos.1 e))]
      rw [if_neg hw] at hset
      rwa [show cur.toList.getD (p * esz + r) undef = cur.getD (p * esz + r) undef by simp [List.getD, Array.getD_eq_getD_getElem?]]
  · refine pc_elt hm hF hZ r1 r2 r3 (fun j' hj' b' hl hb' => ?_) (hole_gone fun z hz hzj => by simp [hzj, hin.1, hin.2])
    have hdead : j' ∈ mv.map Prod.fst := List.mem_map.2 ⟨_, r4 j' hj', rfl⟩
    have hne : b' ≠ b := fun e => by rw [e, h0] at hb'; cases hb'; exact hid hdead
    refine ⟨hw b' hne, fun hu => ⟨?_, ?_⟩, fun hu => ⟨?_, (hm.dom b' j' hb').2⟩⟩
    · simp only [owPut, hb']
      rw [if_pos hdead, if_pos hu]
    · simp only [hb']
      rw [if_pos hdead]
      exact posOf_mem hnd (r4 j' hj')
    · simp only [owPut, hb']
      rw [if_pos hdead, if_neg hu]
  · by_cases hwr : a' = k ∧ off ≤ b' ∧ b' < off + y.cells.length
    · exact .inl hwr
    · refine .inr fun ha' hb' => ?_
      rw [hlen] at hwr
      refine EltOk.weak (Mode.min_le1 _ _) hnil hF hZ (fun _ h => zFZ h) (fun _ h => zFZ h) (fun b1 hb1 hqb hl1 => ?_) (fun d' _ => hι' d') (fun hu => ?_) (h11 a' b' ha' hb')
      · have hne : b1 ≠ b := fun e => by rw [e, hq] at hqb; cases hqb
        refine ⟨hw b1 hne, fun hu => ⟨?_, ?_⟩, fun hu => ⟨?_, (hm.dom b1 i hb1).2⟩⟩
        · simp only [owPut, hb1]
          rw [if_neg hid]; simp [hu]
        · simp only [hb1]
          rw [if_neg hid]; exact hqb
        · simp only [owPut, hb1]
          rw [if_neg hid]
          simp [hu, hne]
      · refine hole_keep fun z hz hza hzb => ?_
        by_cases hin : off ≤ z.2.1 ∧ z.2.1 < off + n
        · exact (hwr ⟨by rw [← hza]; exact (hkh z hz hin.1 hin.2).symm, by omega, by omega⟩).elim
        · simp; omega

/-- A row behind a store. -/
theorem Models.storeRow (hm : Models cx ι ow s a w) {i k off n b nl esz cap : Nat} {m m' : Mode} {nn : Bool} {g : Nat → Nat → PV} {hl : List (Nat × Nat × Nat)} {cur : Array Value} {et : TypeId} {q : Nat → Option (Nat × Nat)} {y : AV} {yv : Value} {xs : List (Nat × Nat × PV)} {mv : List (Nat × (Nat × Nat))}
    (hob : s.obj i = some (.row m nn esz nl g hl)) (hbi : ι i = .slice (some ⟨b, 0, none⟩) nl cap) (h5 : w.heap[b]? = some (.cells cur et (0, 0))) (h0 : ow b = some i) (hq : q b = none) (h6 : nl ≤ cap) (h7 : cap * esz ≤ cur.size)
    (h11 : ∀ p r, p < nl → r < esz → EltOk m (zF cx ow) (zZ cx ow) (fun b => ow b = some i) q ι hl w p r (g p r) (cur.getD (p * esz + r) undef))
    (hk : k < nl) (hle : off + n ≤ esz) (hlen : y.cells.length = n) (hvn : yv.cells.size = n) (h10 : ∀ j e, y.cells[j]? = some e → RepA (zF cx ow) (zZ cx ow) ι w e (yv.cells.getD j undef)) (hpcl : pcl s.obj (posn k off y.cells) = some (m', xs, mv))
    (hnd : nodupB (mv.map Prod.fst) = true) (hid : i ∉ mv.map Prod.fst) (hnil : m.min m' ≠ .u → hl = []) (hkh : ∀ z ∈ hl, off ≤ z.2.1 → z.2.1 < off + n → k = z.1) (hcur : k * esz + off + n ≤ cur.size) :
    ∃ ι' ow', Models cx ι' ow' (s.upd (delU (mv.map Prod.fst) ++ [(i, some (.row (m.min m') nn esz nl (setG xs g) (hl.filter fun z => !(decide (off ≤ z.2.1) && decide (z.2.1 < off + n)))))])) a
      (w.setRow b (cur.toList.take (k * esz + off) ++ yv.cells.toList ++ cur.toList.drop (k * esz + off + n)).toArray) := by
  obtain ⟨f1, f2, f3, f4, f5, f6⟩ := setRow_facts (new := (cur.toList.take (k * esz + off) ++ yv.cells.toList ++ cur.toList.drop (k * esz + off + n)).toArray) h5
  have hvl : yv.cells.toList.length = n := by simpa using hvn
  refine ⟨fun t => if t = i then ι i else ι t, owPut ow i i b (mv.map Prod.fst) (m.min m'), ?_⟩
  have hm' := hm.putRow (i' := i) (M := m.min m') hob h0 (.inl rfl) (dead := mv.map Prod.fst) hid (ι i) (fun _ => rfl) f4 f5 f6 (Nat.le_refl _) (by rw [f3]; exact Nat.le_refl _) (fun b' hlt hne => f2 b' hne)
    (.row (m.min m') nn esz nl (setG xs g) (hl.filter fun z => !(decide (off ≤ z.2.1) && decide (z.2.1 < off + n)))) (by
      intro hF hZ hno
      refine .inr ⟨b, cap, _, et, fun b' => match ow b' with | some t => if t ∈ mv.map Prod.fst then posOf mv t else q b' | none => q b', hbi, ?_, f1, h6, ?_, ?_, fun p r hp' hr' => ?_⟩
      · simp only [owPut, h0]
        rw [if_neg hid]; simp
      · simp only [List.size_toArray, List.length_append, List.length_take, List.length_drop, Array.length_toList]
        simp only [Array.length_toList] at hvl
        omega
      · simp only [h0]
        rw [if_neg hid]; exact hq
      · exact store_cells hm (fun b' hne => f2 b' hne) (fun k => by split <;> simp_all) rfl h0 hq hcur hk hle hlen hvn h10 hpcl hnd hid hnil hkh h11 hF hZ hp' hr')
  refine hm'.same (fun t => ?_) fun t => ?_
  · rw [get_upd]
    have e : ((((s.dels (mv.map Prod.fst)).delOb i).setOb i (.row (m.min m') nn esz nl (setG xs g) (hl.filter fun z => !(decide (off ≤ z.2.1) && decide (z.2.1 < off + n))))).env) = s.env := env_dels _ s
    simp only [St.get, e]
  · rw [upd_delU]
    simp only [St.upd, St.obj_setOb, St.obj_delOb]
    split <;> rfl

theorem sound_store {t : TypeId} {n : Nat} {x y : Operand} (hn : (P.info? t).map (·.size) = some n) : Sound P cx (.store t x y) (.store n x y) := by
  intro det ι ow s a w d K hm h hfr o ho next Q hnx
  simp only [IOp.opds, List.map_cons, List.map_nil, res] at h
  have hx := eval_rep hm x
  have hy := eval_rep hm y
  split at h
  · rename_i i off yv hvs
    simp only [List.cons.injEq, and_true] at hvs
    obtain ⟨hxe, rfl⟩ := hvs
    split at h
    · rename_i cs hob
      simp only [Cnd.holds, Bool.and_eq_true] at h
      obtain ⟨⟨hA, hone⟩, _, h⟩ := h
      obtain ⟨hlen, hle⟩ := of_decide_eq_true hA
      rw [hxe] at hx
      generalize hev : a.eval x = xv at hx
      cases hx with
      | adr _ _ b hbi =>
        obtain ⟨b', cur, et, h4, h0, h5, h6, h7⟩ := hm.obs i _ hob
        rw [hbi] at h4
        simp only [Value.pointer.injEq, Option.some.injEq, Addr.mk.injEq] at h4
        obtain ⟨rfl, _⟩ := h4
        obtain ⟨h8, h9, h10⟩ := cells_rep hm hy hone
        have hvn : (a.eval y).cells.toList.length = n := by simpa using h8.trans hlen
        have hrun : (execOp a.eval o).run P w = .ok .skip (w.setRow b (cur.toList.take off ++ (a.eval y).cells.toList ++ cur.toList.drop (off + n)).toArray) := by
          have hst := run_store (P := P) (w := w) hn (h8.trans hlen) h5 (show off + n ≤ cur.size by omega) h9
          simp only [execOp, ho, hev, Instr.storeAt, Instr.sureAddr, Sem.run_bind, Sem.run_pure, Result.andThen_ok, hst]
        unfold Oper.wp
        rw [hrun, Oper.upon_skip]
        obtain ⟨f1, f2, f3, f4, f5, f6⟩ := setRow_facts (new := (cur.toList.take off ++ (a.eval y).cells.toList ++ cur.toList.drop (off + n)).toArray) h5
        have hm' := hm.putRow (i' := i) (M := .u) hob h0 (.inl rfl) (dead := []) (by simp) (ι i) (fun _ => rfl) f4 f5 f6 (Nat.le_refl _) (by rw [f3]; exact Nat.le_refl _) (fun b' hl hne => f2 b' hne) (.box (cs.take off ++ (opd cx.G s y).cells ++ cs.drop (off + n))) (fun hF hZ hno => by
          refine ⟨b, _, et, hbi, by simp [owPut, h0], f1, by simp; omega, fun j c hj => ?_⟩
          have hi : ∀ k, (if k = i then ι i else ι k) = ι k := fun k => by split <;> simp_all
          rw [show off + n = off + (a.eval y).cells.toList.length by rw [hvn], getD_splice _ _ _ _ (by rw [hvn]; simp; omega), hvn]
          have old : ∀ j c, cs[j]? = some c → RepA (zF cx (owPut ow i i b [] .u)) (zZ cx (owPut ow i i b [] .u)) (fun t => if t = i then ι i else ι t) _ c (cur.toList.getD j undef) := fun j c hj => by
            have := (h7 j c hj).mono hF hZ (fun k _ => hi k)
            rwa [show cur.toList.getD j undef = cur.getD j undef by simp [List.getD, Array.getD_eq_getD_getElem?]]
          by_cases h1 : j < off
          · rw [if_neg (by omega)]
            rw [List.append_assoc, List.getElem?_append_left (by simp; omega), List.getElem?_take_of_lt h1] at hj
            exact old j c hj
          · by_cases h2 : j < off + n
            · rw [if_pos ⟨by omega, h2⟩]
              rw [List.append_assoc, List.getElem?_append_right (by simp; omega), List.getElem?_append_left (by simp; omega)] at hj
              have : j - (cs.take off).length = j - off := by simp; omega
              rw [this] at hj
              have := (h10 _ c hj).mono hF hZ (fun k _ => hi k)
              rwa [show (a.eval y).cells.toList.getD (j - off) undef = (a.eval y).cells.getD (j - off) undef by simp [List.getD, Array.getD_eq_getD_getElem?]]
            · rw [if_neg (by omega)]
              rw [List.getElem?_append_right (by simp; omega), List.getElem?_drop] at hj
              have : off + n + (j - (cs.take off ++ (opd cx.G s y).cells).length) = j := by simp; omega
              rw [this] at hj
              exact old j c hj)
        refine hnx _ _ _ _ _ _ h (hm'.same (fun t => rfl) fun k => ?_) (rep_mkv _)
        simp only [St.upd, St.obj_setOb, St.obj_delOb, St.dels]
        split <;> rfl
    · exact h.elim
  · rename_i i esz k off yv hvs
    simp only [List.cons.injEq, and_true] at hvs
    obtain ⟨hxe, rfl⟩ := hvs
    split at h
    · rename_i m nn esz' n' g hl hob
      split at h
      · rename_i m' xs mv hpcl
        simp only [Cnd.holds, Bool.and_eq_true, Bool.not_eq_true', List.contains_eq_mem, decide_eq_false_iff_not] at h
        obtain ⟨⟨⟨⟨hA, hnd⟩, hid⟩, hM⟩, hp, h⟩ := h
        obtain ⟨rfl, hlen, hle⟩ := of_decide_eq_true hA
        have hall := andP_all hp
        have hk : k < n' := hall _ List.mem_cons_self
        have hkh : ∀ z ∈ hl, off ≤ z.2.1 → z.2.1 < off + n → k = z.1 := fun z hz h1 h2 => hall _ (List.mem_cons_of_mem _ (List.mem_map.2 ⟨z, List.mem_filter.2 ⟨hz, by simp [h1, h2]⟩, rfl⟩))
        have hnil : m.min m' ≠ .u → hl = [] := fun hne => by
          cases hmm : m.min m' with
          | u => exact (hne hmm).elim
          | f => rw [hmm] at hM; simpa using hM
          | z => rw [hmm] at hM; simpa using hM
        rw [hxe] at hx
        generalize hev : a.eval x = xv at hx
        cases hx with
        | elt _ _ _ _ b nl cap hbi =>
          rcases hm.obs i _ hob with ⟨rfl, _⟩ | ⟨b', cap', cur, et, q, h4, h0, h5, h6, h7, hq, h11⟩
          · omega
          rw [hbi] at h4
          simp only [Value.slice.injEq, Option.some.injEq, Addr.mk.injEq] at h4
          obtain ⟨⟨rfl, _⟩, rfl, rfl⟩ := h4
          have hone : ((opd cx.G s y).cells.all fun e => e.one s.obj) = true := by
            rw [List.all_eq_true]
            intro e he
            obtain ⟨j, hj⟩ := posn_mem (k := k) (off := off) he
            exact pcl_one hpcl _ hj
          obtain ⟨h8, h9, h10⟩ := cells_rep hm hy hone
          have hvn : (a.eval y).cells.size = n := h8.trans hlen
          have hvl : (a.eval y).cells.toList.length = n := by simpa using hvn
          have hroom : k * esz + off + n ≤ cur.size := by
            have h1 : k * esz + esz ≤ nl * esz := by rw [← Nat.succ_mul]; exact Nat.mul_le_mul_right _ hk
            have h2 := Nat.mul_le_mul_right esz h6
            omega
          have hrun : (execOp a.eval o).run P w = .ok .skip (w.setRow b (cur.toList.take (k * esz + off) ++ (a.eval y).cells.toList ++ cur.toList.drop (k * esz + off + n)).toArray) := by
            have hst := run_store (P := P) (w := w) hn hvn h5 hroom h9
            simp only [execOp, ho, hev, Instr.storeAt, Instr.sureAddr, Sem.run_bind, Sem.run_pure, Result.andThen_ok, hst]
          unfold Oper.wp
          rw [hrun, Oper.upon_skip]
          obtain ⟨f1, f2, f3, f4, f5, f6⟩ := setRow_facts (new := (cur.toList.take (k * esz + off) ++ (a.eval y).cells.toList ++ cur.toList.drop (k * esz + off + n)).toArray) h5
          obtain ⟨ι', ow', hm'⟩ := hm.storeRow hob hbi h5 h0 hq h6 h7 h11 hk hle hlen hvn h10 hpcl hnd hid hnil hkh hroom
          exact hnx ι' ow' _ _ _ _ h hm' (rep_mkv _)
      · exact h.elim
    · exact h.elim
  · exact h.elim
end
end Go.Gw
