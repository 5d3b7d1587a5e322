/- Operations that make variables, struct values and slice literals, and that store; with no condition. -/
import Derived.Test.YtopnhnnfobbocaaDoorGw9
namespace Go.Gw
open Go
set_option linter.unusedVariables false
set_option linter.unusedSimpArgs false

def owNew (ow : Nat → Option Nat) (B d : Nat) (dead : List Nat) (M : Mode) (b : Nat) : Option Nat :=
  if b = B then some d else match ow b with
    | some i => if i ∈ dead then (if M = .u then some d else none) else some i
    | none => none

section
variable {P : Program} {cx : Cx} {ι : Nat → Value} {ow : Nat → Option Nat} {s : St} {a : Act} {w : World} {d : Nat}

/-- A new object in a block of its own. -/
theorem Models.newObj (hm : Models cx ι ow s a w) (hd : s.noid d) {dead : List Nat} {M : Mode} {w' : World} {B : Nat} (hg : Grows w w') (hB : w.heap.size ≤ B) (x : Value) (ob : Ob)
    (hob : (∀ b, zF cx ow b → b < w.heap.size → w'.heap[b]? = w.heap[b]? ∧ zF cx (owNew ow B d dead M) b) → (∀ b, zZ cx ow b → b < w.heap.size → w'.heap[b]? = w.heap[b]? ∧ zZ cx (owNew ow B d dead M) b) →
      ObOk (zF cx (owNew ow B d dead M)) (zZ cx (owNew ow B d dead M)) (fun b => owNew ow B d dead M b = some d) (fun t => if t = d then x else ι t) w' x ob) :
    Models cx (fun t => if t = d then x else ι t) (owNew ow B d dead M) ((s.dels dead).setOb d ob) a w' := by
  refine hm.change (env_dels dead s) (fun t => ?_) (fun b hl ho => ⟨?_, hg.same hl⟩) (fun b t ht => ?_) hg.os hg.tape hg.output hg.drawn hg.size fun t o ht => ?_
  · by_cases h : t = d
    · exact .inr (h ▸ hd)
    · exact .inl (by simp [h])
  · have : b ≠ B := by omega
    simp [owNew, this, ho]
  · unfold owNew at ht
    split at ht
    · rename_i hb
      cases ht
      exact ⟨by rw [St.obj_setOb, if_pos rfl]; rfl, .inr (by have := hm.ext.size; omega)⟩
    · split at ht
      · rename_i i hi
        obtain ⟨h1, h2⟩ := hm.dom b i hi
        split at ht
        · split at ht
          · cases ht; exact ⟨by rw [St.obj_setOb, if_pos rfl]; rfl, h2⟩
          · cases ht
        · rename_i hnd
          cases ht
          refine ⟨?_, h2⟩
          rw [St.obj_setOb]
          split
          · rfl
          · rw [obj_dels, if_neg hnd]; exact h1
      · cases ht
  · rw [St.obj_setOb] at ht
    split at ht
    · rename_i hdt
      subst hdt
      cases ht
      refine .inr fun hF hZ _ => ?_
      simp only [if_true]
      exact hob hF hZ
    · rename_i hdt
      rw [obj_dels] at ht
      split at ht
      · cases ht
      · rename_i hnd
        refine .inl ⟨if_neg fun e => hdt e.symm, ht, fun b hl hb => ⟨?_, hg.same hl⟩⟩
        have : b ≠ B := by omega
        simp [owNew, this, hb, hnd]

theorem sound_box {t : TypeId} {n : Nat} {x : Operand} : Sound P cx (.box t x) (.box n x) := by
  intro det ι ow s a w d K hm h hfr o ho next Q hnx
  simp only [IOp.opds, List.map_cons, List.map_nil, res, Cnd.holds, Bool.and_eq_true, decide_eq_true_eq] at h
  obtain ⟨⟨_, h1⟩, _, h⟩ := h
  have hd := hfr d (by simp [IOp.fresh])
  obtain ⟨h2, _, h3⟩ := cells_rep hm (eval_rep hm x) h1
  unfold Oper.wp
  have : (execOp a.eval o).run P w = .ok (.value (.pointer (some ⟨w.heap.size, 0, none⟩))) (w.alloc (.cells (a.eval x).cells t)) := by
    simp [execOp, ho, Instr.box, newVar, newRow]
  rw [this, Oper.upon_value]
  have hm' := hm.newObj (dead := []) (M := .u) hd (Grows.alloc w (.cells (a.eval x).cells t)) (Nat.le_refl _) (.pointer (some ⟨w.heap.size, 0, none⟩)) (.box (opd cx.G s x).cells) (fun hF hZ => by
    refine ⟨w.heap.size, (a.eval x).cells, t, rfl, by simp [owNew], (by show (w.heap.push _)[w.heap.size]? = _; simp), h2, fun j c hj => ?_⟩
    refine (h3 j c hj).mono hF hZ fun i hi => ?_
    have hno : (opd cx.G s x).noid d = true := opd_noid hd x
    have : c.noid d = true := by
      have hc : ∀ (e : AV), e.noid d = true → ∀ (j : Nat) (c : AV), e.cells[j]? = some c → c.noid d = true := by
        intro e he j c hj
        cases e with
        | ag cs =>
          simp only [AV.noid] at he
          exact noids_get he hj
        | _ =>
          simp only [AV.cells] at hj
          cases j with
          | zero => simp at hj; exact hj ▸ he
          | succ j => simp at hj
      exact hc _ hno j c hj
    rw [if_neg (fun e => by rw [e] at hi; rw [this] at hi; cases hi)])
  refine hnx _ _ _ _ _ _ h (hm'.same (fun t => rfl) fun i => ?_) (.adr d 0 w.heap.size (by simp))
  rfl

theorem sound_alloc {t : TypeId} {z : Value} {i : TypeInfo} (hi : P.info? t = some i) (hz : i.zero = some z) : Sound P cx (.alloc t) (.alloc z.cells.toList) := by
  intro det ι ow s a w d K hm h hfr o ho next Q hnx
  simp only [IOp.opds, List.map_nil, res, Cnd.holds] at h
  have hd := hfr d (by simp [IOp.fresh])
  unfold Oper.wp
  have : (execOp a.eval o).run P w = .ok (.value (.pointer (some ⟨w.heap.size, 0, none⟩))) (w.alloc (.cells z.cells t)) := by
    simp [execOp, ho, Instr.alloc, newVar, newRow, zeroValue, typeInfo, hi, hz]
  rw [this, Oper.upon_value]
  have hm' := hm.newObj (dead := []) (M := .u) hd (Grows.alloc w (.cells z.cells t)) (Nat.le_refl _) (.pointer (some ⟨w.heap.size, 0, none⟩)) (.box (z.cells.toList.map fun v => .p true (.v v))) (fun hF hZ => by
    refine ⟨w.heap.size, z.cells, t, rfl, by simp [owNew], (by show (w.heap.push _)[w.heap.size]? = _; simp), by simp, fun j c hj => ?_⟩
    simp only [List.getElem?_map, Option.map_eq_some_iff, Array.getElem?_toList] at hj
    obtain ⟨v, hv, rfl⟩ := hj
    have : z.cells.getD j undef = v := by simp [Array.getD_eq_getD_getElem?, hv]
    rw [this]
    exact rep_mkv _)
  exact hnx _ _ _ _ _ _ h.2.2 (hm'.same (fun t => rfl) fun i => rfl) (.adr d 0 w.heap.size (by simp))

theorem fillA_spec (hm : Models cx ι ow s a w) {place : Nat → Option (Nat × Nat)} : ∀ (ps : List (Nat × Nat × AV)) (parts : List (Nat × Value)) (cells cells' : List AV) (vals : Array Value),
    ps.length = parts.length → (∀ (j : Nat) (p : Nat × Nat × AV) (q : Nat × Value), ps[j]? = some p → parts[j]? = some q → place q.1 = some (p.1, p.2.1) ∧ RepA (zF cx ow) (zZ cx ow) ι w p.2.2 q.2 ∧ (p.2.2.cells.all fun c => c.one s.obj) = true) →
    vals.size = cells.length → (∀ j c, cells[j]? = some c → RepA (zF cx ow) (zZ cx ow) ι w c (vals.getD j undef)) → fillA cells ps = some cells' →
    ∃ vals', Instr.fill place vals parts = some vals' ∧ vals'.size = cells'.length ∧ ∀ j c, cells'[j]? = some c → RepA (zF cx ow) (zZ cx ow) ι w c (vals'.getD j undef)
  | [], [], cells, cells', vals, _, _, hs, hr, h => by
    simp only [fillA, Option.some.injEq] at h
    subst h
    exact ⟨vals, rfl, hs, hr⟩
  | (off, n, c) :: ps, (i, v) :: parts, cells, cells', vals, hl, hall, hs, hr, h => by
    simp only [fillA] at h
    split at h
    · rename_i hc
      obtain ⟨h1, h2⟩ := hc
      obtain ⟨h3, h4, h5⟩ := hall 0 _ _ rfl rfl
      obtain ⟨h6, h7, h8⟩ := cells_rep hm h4 h5
      have hvs : v.cells.size = n := h6.trans h1
      have hlay := layAt_spec (cells := vals) (off := off) (v := v) (by rw [hvs, hs]; exact h2)
      obtain ⟨vals', r1, r2, r3⟩ := fillA_spec hm (place := place) ps parts _ cells' (layAt vals off v) (by simpa using hl) (fun j p q hp hq => hall (j + 1) p q (by simpa using hp) (by simpa using hq)) (by rw [hlay.1, hs]; simp; omega) (fun j e hj => by
        rw [hlay.2 j, hvs]
        by_cases hj1 : j < off
        · rw [if_neg (by omega)]
          rw [List.append_assoc, List.getElem?_append_left (by simp; omega), List.getElem?_take_of_lt hj1] at hj
          exact hr j e hj
        · by_cases hj2 : j < off + n
          · rw [if_pos ⟨by omega, hj2⟩]
            rw [List.append_assoc, List.getElem?_append_right (by simp; omega), List.getElem?_append_left (by simp; omega)] at hj
            have : j - (cells.take off).length = j - off := by simp; omega
            rw [this] at hj
            exact h8 _ e hj
          · rw [if_neg (by omega)]
            rw [List.getElem?_append_right (by simp; omega), List.getElem?_drop] at hj
            have : off + n + (j - (cells.take off ++ c.cells).length) = j := by simp; omega
            rw [this] at hj
            exact hr j e hj) h
      refine ⟨vals', ?_, r2, r3⟩
      rw [fill_cons h3 hvs (by rw [hs]; exact h2)]
      exact r1
    · cases h

theorem sound_build {t : TypeId} {z : Value} {it : TypeInfo} {fs : Array Field} {places : List (Nat × Nat)} {parts : Array (Nat × Operand)} {ps : List (Nat × Nat × Operand)}
    (hu : P.underlying t = some (.struct fs)) (hi : P.info? t = some it) (hz : it.zero = some z) (hpl : fs.toList.mapM (fun f => (P.info? f.type).map fun i => (f.offset, i.size)) = some places)
    (hps : parts.toList.mapM (fun p => (places[p.1]?).map fun q => (q.1, q.2, p.2)) = some ps) : Sound P cx (.build t parts) (.build z.cells.toList ps) :=
  .value fun _ ι ow s a w d K hm h => by
    simp only [IOp.opds, res] at h
    split at h
    · rename_i cs hf
      simp only [Cnd.holds, Bool.and_eq_true, decide_eq_true_eq] at h
      obtain ⟨⟨_, hone⟩, _, h⟩ := h
      -- the places of the parts
      have key : ∀ (l : List (Nat × Operand)) (qs : List (Nat × Nat × Operand)), l.mapM (fun p => (places[p.1]?).map fun q => (q.1, q.2, p.2)) = some qs →
          qs.length = l.length ∧ ∀ (j : Nat) (p : Nat × Operand) (q : Nat × Nat × Operand), qs[j]? = some q → l[j]? = some p → places[p.1]? = some (q.1, q.2.1) ∧ q.2.2 = p.2 := by
        intro l
        induction l with
        | nil => intro qs h; simp at h; subst h; exact ⟨rfl, fun j p q h => by simp at h⟩
        | cons x l ih =>
          intro qs h
          simp only [List.mapM_cons, Option.bind_eq_bind, Option.bind_eq_some_iff, Option.pure_def, Option.some.injEq, Option.map_eq_some_iff] at h
          obtain ⟨y, ⟨r, h1, rfl⟩, qs', h2, rfl⟩ := h
          obtain ⟨h3, h4⟩ := ih qs' h2
          refine ⟨by simp [h3], fun j p q hq hp => ?_⟩
          cases j with
          | zero => simp at hq hp; subst hq; subst hp; exact ⟨h1, rfl⟩
          | succ j => exact h4 j p q (by simpa using hq) (by simpa using hp)
      obtain ⟨k1, k2⟩ := key _ _ hps
      obtain ⟨vals', r1, r2, r3⟩ := fillA_spec hm (place := fun x => places.toArray[x]?) ((ps.zip ((ps.map fun p => p.2.2).map (opd cx.G s))).map fun x => (x.1.1, x.1.2.1, x.2)) (parts.toList.map fun p => (p.1, a.eval p.2)) _ cs z.cells (by simp [k1])
        (fun j p q hp hq => by
          simp only [List.getElem?_map, Option.map_eq_some_iff] at hp hq
          obtain ⟨y, hy, rfl⟩ := hp
          obtain ⟨p', hp', rfl⟩ := hq
          rw [List.getElem?_zip_eq_some] at hy
          obtain ⟨hy1, hy2⟩ := hy
          simp only [List.getElem?_map, Option.map_eq_some_iff] at hy2
          obtain ⟨x, ⟨y', hy', rfl⟩, hx⟩ := hy2
          rw [hy1] at hy'
          cases hy'
          obtain ⟨k3, k4⟩ := k2 j p' y.1 hy1 hp'
          refine ⟨by simpa using k3, ?_, ?_⟩
          · rw [← hx, ← k4]; exact eval_rep hm _
          · rw [List.all_eq_true] at hone
            exact hone _ (by rw [← hx]; exact List.mem_map.2 ⟨_, List.mem_map.2 ⟨_, List.mem_of_getElem? hy1, rfl⟩, rfl⟩)) (by simp) (fun j c hj => by
          simp only [List.getElem?_map, Option.map_eq_some_iff, Array.getElem?_toList] at hj
          obtain ⟨v, hv, rfl⟩ := hj
          have : z.cells.getD j undef = v := by simp [Array.getD_eq_getD_getElem?, hv]
          rw [this]
          exact rep_mkv _) hf
      refine ⟨_, .agg vals', h, .ag _ _ r2 r3, fun o ho => ?_⟩
      have hb : P.built t ((parts.map fun p => (p.1, a.eval p.2)).toList) = some vals' := by
        unfold Program.built
        simp only [hi, hu, hz, hpl, Array.toList_map]
        exact r1
      simp [execOp, ho, run_build w t _ vals' hb]
    · exact h.elim

theorem sound_fval {t : TypeId} {x : Operand} {i : Nat} {fs : Array Field} {f : Field} {td : TypeDesc} {n : Nat}
    (ht : P.underlying t = some (.struct fs)) (hf : fs[i]? = some f) (hft : P.underlying f.type = some td) (hn : (P.info? f.type).map (·.size) = some n) : Sound P cx (.field t x i) (.fval (aggD td) f.offset n x) :=
  .value fun _ ι ow s a w d K hm h => by
    simp only [IOp.opds, List.map_cons, List.map_nil, res] at h
    have h1 := eval_rep hm x
    split at h
    · rename_i cs hvs
      simp only [List.cons.injEq, and_true] at hvs
      rw [hvs] at h1
      generalize he : a.eval x = y at h1
      cases h1 with
      | ag _ xs h2 h3 =>
        split at h
        · rename_i hd
          simp only [Cnd.holds, decide_eq_true_eq] at h
          obtain ⟨hle, _, h⟩ := h
          refine ⟨_, .agg (xs.extract f.offset (f.offset + n)), h, .ag _ _ (by simp; omega) fun j c hj => ?_, fun o ho => ?_⟩
          · rw [List.getElem?_take] at hj
            split at hj
            · rename_i hjn
              have := h3 (f.offset + j) c (by simpa using hj)
              have e : (xs.extract f.offset (f.offset + n)).getD j undef = xs.getD (f.offset + j) undef := by
                simp only [Array.getD_eq_getD_getElem?, Array.getElem?_extract]
                rw [if_pos (by omega)]
              rw [e]; exact this
            · cases hj
          · simp [execOp, ho, he, Instr.field, run_underlying ht, hf, asAgg, part, run_agg hft, hd, run_size hn, show ¬ xs.size < f.offset + n by omega]
        · rename_i hd
          simp only [Cnd.holds, Bool.and_eq_true, decide_eq_true_eq] at h
          obtain ⟨⟨hle, rfl⟩, _, h⟩ := h
          refine ⟨_, xs.getD f.offset undef, h, h3 f.offset _ ?_, fun o ho => ?_⟩
          · simp [List.getD, List.getElem?_eq_getElem (show f.offset < cs.length by omega)]
          · have hlt : f.offset < xs.size := by omega
            simp [execOp, ho, he, Instr.field, run_underlying ht, hf, asAgg, part, run_agg hft, hd, hlt, Array.getD_eq_getD_getElem?]
    · exact h.elim
end
end Go.Gw
