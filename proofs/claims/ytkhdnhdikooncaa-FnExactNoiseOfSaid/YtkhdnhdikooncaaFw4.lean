/- Operations that read, and calls; with no condition. -/
import Derived.Test.YtkhdnhdikooncaaFw3
namespace Go.Fw
open Go
set_option linter.unusedVariables false
set_option linter.unusedSimpArgs false

theorem addr_add (b off j : Nat) : (⟨b, off, none⟩ : Addr).add j = ⟨b, off + j, none⟩ := by unfold Addr.add; split <;> simp_all

def aggD : TypeDesc → Bool
  | .struct _ => true
  | .array _ _ => true
  | _ => false

section
variable {P : Program} {cx : Cx} {ι : Nat → Value} {s : St} {a : Act} {w : World} {d : Nat} {det : Bool}

theorem run_agg {t : TypeId} {d : TypeDesc} (h : P.underlying t = some d) (w : World) : (isAgg t).run P w = .ok (aggD d) w := by
  simp only [isAgg, Sem.run_bind, run_underlying h, Result.andThen_ok]
  cases d <;> simp [aggD]

theorem run_loadVar {t : TypeId} {d : TypeDesc} {n : Nat} (ht : P.underlying t = some d) (hn : (P.info? t).map (·.size) = some n)
    {b off : Nat} (val : Nat → Value) (hc : ∀ j, j < n → w.cell? ⟨b, off + j, none⟩ = some (val j)) (h1 : aggD d = false → 0 < n) :
    (loadVar t ⟨b, off, none⟩).run P w = .ok (if aggD d then .agg ((List.range n).map val).toArray else val 0) w := by
  simp only [loadVar, Sem.run_bind, run_agg ht, Result.andThen_ok]
  cases hd : aggD d with
  | true =>
    simp only [if_true, Sem.run_bind, run_size hn, Result.andThen_ok, run_loadCells w ⟨b, off, none⟩ n val (fun j hj => by rw [addr_add]; exact hc j hj), Sem.run_pure]
  | false =>
    have := hc 0 (h1 hd)
    rw [Nat.add_zero] at this
    simp [this]

theorem getD_range_map (n : Nat) (f : Nat → Value) (j : Nat) (h : j < n) : ((List.range n).map f).toArray.getD j undef = f j := by
  simp [Array.getD_eq_getD_getElem?, h]

theorem run_loadAt {t : TypeId} {x : Operand} {b off : Nat} (he : a.eval x = .pointer (some ⟨b, off, none⟩)) {v : Value} (hv : (loadVar t ⟨b, off, none⟩).run P w = .ok v w)
    (o : Oper) (ho : o.op = .load t x) : (execOp a.eval o).run P w = .ok (.value v) w := by
  simp [execOp, ho, he, Instr.loadAt, Instr.sureAddr, hv]

theorem does_load {K : AV → St → Prop} {t : TypeId} {td : TypeDesc} {n : Nat} {x : Operand} {ty : TypeId} (ht : P.underlying t = some td) (hn : (P.info? t).map (·.size) = some n)
    (h : AOp P cx.G det St.noid s d K (.load (aggD td) n x)) : Does P cx s (.load t x) ty K := by
  simp only [AOp, IOp.isW, AQ] at h
  split at h
  · rename_i fr m g hx
    obtain ⟨hle, h⟩ := h
    refine .value fun ι a w hm => ?_
    have h1 := eval_rep hm x
    rw [hx, rep_p] at h1
    generalize he : a.eval x = y at h1
    cases h1 with
    | pp _ _ b off val hc hr hz =>
      cases hd : aggD td with
      | true =>
        simp only [hd, if_true] at h
        have hv := run_loadVar ht hn val (fun j hj => hc j (by omega)) (w := w) (b := b) (off := off) (fun e => by simp [hd] at e)
        simp only [hd, if_true] at hv
        refine ⟨_, _, h, ?_, fun o ho _ => run_loadAt he hv o ho⟩
        refine .ag _ _ (by simp) fun j c hj => ?_
        simp only [List.getElem?_map, Option.map_eq_some_iff, List.getElem?_range] at hj
        obtain ⟨e, hj, rfl⟩ := hj
        obtain ⟨hjn, rfl⟩ := List.getElem?_eq_some_iff.1 hj
        simp only [List.length_range] at hjn
        simp only [List.getElem_range]
        rw [getD_range_map _ _ _ hjn]
        exact rep_mk (hr _ (by omega))
      | false =>
        simp only [hd, Bool.false_eq_true, if_false] at h
        obtain ⟨rfl, h⟩ := h
        have hv := run_loadVar ht hn val (fun j hj => hc j (by omega)) (w := w) (b := b) (off := off) (fun e => by omega)
        simp only [hd, Bool.false_eq_true, if_false] at hv
        exact ⟨_, _, h, rep_mk (hr 0 (by omega)), fun o ho _ => run_loadAt he hv o ho⟩
  · rename_i i off hx
    split at h
    · rename_i cs ho
      obtain ⟨hle, h⟩ := h
      refine .value fun ι a w hm => ?_
      have h1 := eval_rep hm x
      rw [hx] at h1
      generalize he : a.eval x = y at h1
      cases h1 with
      | adr _ _ b hb =>
        obtain ⟨b', c, tt, h4, h5, h6, h7⟩ := hm.obs i _ ho
        rw [hb] at h4
        simp only [Value.pointer.injEq, Option.some.injEq, Addr.mk.injEq] at h4
        obtain ⟨rfl, _⟩ := h4
        have hc : ∀ j, j < n → w.cell? ⟨b, off + j, none⟩ = some (c.getD (off + j) undef) := fun j hj => cell_of_row h5 (by omega)
        cases hd : aggD td with
        | true =>
          simp only [hd, if_true] at h
          have hv := run_loadVar ht hn (fun j => c.getD (off + j) undef) hc (fun e => by simp [hd] at e)
          simp only [hd, if_true] at hv
          refine ⟨_, _, h, ?_, fun o ho _ => run_loadAt he hv o ho⟩
          refine .ag _ _ (by simp; omega) fun j e hj => ?_
          rw [List.getElem?_take] at hj
          split at hj
          · rename_i hjn
            rw [getD_range_map _ _ _ hjn]
            exact h7 _ e (by simpa using hj)
          · cases hj
        | false =>
          simp only [hd, Bool.false_eq_true, if_false] at h
          obtain ⟨rfl, h⟩ := h
          have hv := run_loadVar ht hn (fun j => c.getD (off + j) undef) hc (fun e => by omega)
          simp only [hd, Bool.false_eq_true, if_false] at hv
          refine ⟨_, _, h, h7 off _ ?_, fun o ho _ => run_loadAt he hv o ho⟩
          simp [List.getD, List.getElem?_eq_getElem (show off < cs.length by omega)]
    · exact h.elim
  · rename_i i esz k off hx
    split at h
    · rename_i fr esz' m g ho
      obtain ⟨rfl, hk, hle, h⟩ := h
      refine .value fun ι a w hm => ?_
      have h1 := eval_rep hm x
      rw [hx] at h1
      generalize he : a.eval x = y at h1
      cases h1 with
      | elt _ _ _ _ b n' cap hb =>
        rcases hm.obs i _ ho with ⟨h4, rfl⟩ | ⟨b', cap', c, tt, h4, h5, h6, h7, h9⟩
        · omega
        · rw [hb] at h4
          simp only [Value.slice.injEq, Option.some.injEq, Addr.mk.injEq] at h4
          obtain ⟨⟨rfl, _⟩, rfl, rfl⟩ := h4
          have hc : ∀ j, j < n → w.cell? ⟨b, k * esz + off + j, none⟩ = some (c.getD (k * esz + (off + j)) undef) := fun j hj => by
            have := idx_lt hk (show off + j < esz by omega)
            have := Nat.mul_le_mul_right esz h6
            rw [Nat.add_assoc]
            exact cell_of_row h5 (by omega)
          cases hd : aggD td with
          | true =>
            simp only [hd, if_true] at h
            have hv := run_loadVar ht hn (fun j => c.getD (k * esz + (off + j)) undef) hc (fun e => by simp [hd] at e)
            simp only [hd, if_true] at hv
            refine ⟨_, _, h, ?_, fun o ho _ => run_loadAt he hv o ho⟩
            refine .ag _ _ (by simp) fun j e hj => ?_
            simp only [List.getElem?_map, Option.map_eq_some_iff] at hj
            obtain ⟨e, hj, rfl⟩ := hj
            obtain ⟨hjn, rfl⟩ := List.getElem?_eq_some_iff.1 hj
            simp only [List.length_range] at hjn
            simp only [List.getElem_range]
            rw [getD_range_map _ _ _ hjn]
            exact rep_mk (h9 k _ hk (by omega))
          | false =>
            simp only [hd, Bool.false_eq_true, if_false] at h
            obtain ⟨rfl, h⟩ := h
            have hv := run_loadVar ht hn (fun j => c.getD (k * esz + (off + j)) undef) hc (fun e => by omega)
            simp only [hd, Bool.false_eq_true, if_false] at hv
            exact ⟨_, _, h, rep_mk (h9 k off hk (by omega)), fun o ho _ => run_loadAt he hv o ho⟩
    · exact h.elim
  · exact h.elim

theorem does_idx {K : AV → St → Prop} {t e : TypeId} {esz : Nat} {x i : Operand} {ty : TypeId} (ht : P.underlying t = some (.slice e)) (hn : (P.info? e).map (·.size) = some esz)
    (h : AOp P cx.G det St.noid s d K (.idx esz x i)) : Does P cx s (.indexAddr t x i) ty K := by
  simp only [AOp, IOp.isW, AQ] at h
  split at h
  · rename_i fri kd n hi
    have hrun : ∀ (a : Act) (w : World) (b off len cap : Nat), a.eval x = .slice (some ⟨b, off, none⟩) len cap → a.eval i = .int kd n → 0 ≤ n → n.toNat < len → ∀ o : Oper, o.op = .indexAddr t x i →
        (execOp a.eval o).run P w = .ok (.value (.pointer (some ⟨b, off + n.toNat * esz, none⟩))) w := by
      intro a w b off len cap h1 h2 h3 h4 o ho
      have h5 : n < (len : Int) := by omega
      simp [execOp, ho, h1, h2, Instr.indexAt, asIntOf, run_underlying ht, h3, h5, run_size hn, addr_add]
    split at h
    · rename_i fr nn esz' m g hx
      obtain ⟨rfl, h0, hlt, h⟩ := h
      refine .value fun ι a w hm => ?_
      have h1 := eval_rep hm x
      have h2 := eval_rep hm i
      rw [hx, rep_p] at h1
      rw [hi] at h2
      have h2 := rep_v h2
      generalize he : a.eval x = y at h1
      cases h1 with
      | nil => omega
      | sl _ _ _ _ b off cap val hc hr hz hcap =>
        refine ⟨_, _, h, rep_p.2 ?_, fun o ho _ => hrun a w b off _ cap he h2 h0 hlt o ho⟩
        exact .pp _ _ b _ (fun j => val n.toNat j) (fun j hj => hc n.toNat j hlt hj) (fun j hj => hr n.toNat j hlt hj) (fun j hj => hz n.toNat j hlt hj)
    · rename_i j hx
      split at h
      · rename_i fr esz' m g ho
        obtain ⟨rfl, h0, hlt, h⟩ := h
        refine .value fun ι a w hm => ?_
        have h1 := eval_rep hm x
        have h2 := eval_rep hm i
        rw [hx] at h1
        rw [hi] at h2
        have h2 := rep_v h2
        generalize he : a.eval x = y at h1
        cases h1 with
        | own _ =>
          rcases hm.obs j _ ho with ⟨h4, rfl⟩ | ⟨b, cap, c, tt, h4, h5, h6, h7, h9⟩
          · omega
          · refine ⟨_, .pointer (some ⟨b, n.toNat * esz + 0, none⟩), h, .elt j esz n.toNat 0 b m cap h4, fun o ho _ => ?_⟩
            rw [hrun a w b 0 _ cap (he.trans h4) h2 h0 hlt o ho]
            simp
      · exact h.elim
    · exact h.elim
  · exact h.elim

theorem does_lenS {K : AV → St → Prop} {t : TypeId} {x : Operand} {ty : TypeId} (ht : P.underlying t = some .string)
    (h : AOp P cx.G det St.noid s d K (.lenS x)) : Does P cx s (.call { callee := .builtin .len, args := #[x], argTypes := #[t] }) ty K := by
  simp only [AOp, IOp.isW, AQ] at h
  split at h
  · rename_i fr b hx
    refine .value fun ι a w hm => ?_
    have h1 := eval_rep hm x
    rw [hx] at h1
    have h1 := rep_v h1
    exact ⟨_, _, h, rep_mkv _, fun o ho _ => by simp [execOp, ho, resolve, invoke, builtin, Builtin.len_, h1, run_underlying ht, goInt]⟩
  · exact h.elim

theorem does_len {K : AV → St → Prop} {t e : TypeId} {x : Operand} {ty : TypeId} (ht : P.underlying t = some (.slice e))
    (h : AOp P cx.G det St.noid s d K (.len x)) : Does P cx s (.call { callee := .builtin .len, args := #[x], argTypes := #[t] }) ty K := by
  have hsl : ∀ (a : Act) (w : World) (p : Option Addr) (n cap : Nat), a.eval x = .slice p n cap → ∀ o : Oper, o.op = .call { callee := .builtin .len, args := #[x], argTypes := #[t] } →
      (execOp a.eval o).run P w = .ok (.value (.int .i64 n)) w := by
    intro a w p n cap h1 o ho
    simp [execOp, ho, resolve, invoke, builtin, Builtin.len_, h1, run_underlying ht, goInt]
  simp only [AOp, IOp.isW, AQ] at h
  split at h
  · rename_i fr nn esz n g hx
    refine .value fun ι a w hm => ?_
    have h1 := eval_rep hm x
    rw [hx, rep_p] at h1
    generalize he : a.eval x = y at h1
    cases h1 with
    | nil => exact ⟨_, _, h, rep_mkv _, fun o ho _ => hsl a w _ _ _ he o ho⟩
    | sl _ _ _ _ b off cap val hc hr hz hcap => exact ⟨_, _, h, rep_mkv _, fun o ho _ => hsl a w _ _ _ he o ho⟩
  · rename_i fr p n cap hx
    refine .value fun ι a w hm => ?_
    have h1 := eval_rep hm x
    rw [hx] at h1
    exact ⟨_, _, h, rep_mkv _, fun o ho _ => hsl a w _ _ _ (rep_v h1) o ho⟩
  · rename_i j hx
    split at h
    · rename_i fr esz n g ho
      refine .value fun ι a w hm => ?_
      have h1 := eval_rep hm x
      rw [hx] at h1
      generalize he : a.eval x = y at h1
      cases h1 with
      | own _ =>
        rcases hm.obs j _ ho with ⟨h4, rfl⟩ | ⟨b, cap, c, tt, h4, h5, h6, h7, h9⟩
        · exact ⟨_, _, h, rep_mkv _, fun o ho _ => hsl a w _ _ _ (he.trans h4) o ho⟩
        · exact ⟨_, _, h, rep_mkv _, fun o ho _ => hsl a w _ _ _ (he.trans h4) o ho⟩
    · exact h.elim
  · exact h.elim

mutual
theorem view_rep (hm : Models cx ι s a w) {l : Bool} : ∀ {c : AV} {x : Value}, RepA (zF cx ι s) (zZ cx ι s) ι w c x → (c.view s.obj).closed = true → (c.lent = true → l = true) →
    ∀ ι', RepA (fun _ => False) (fun b => l = true ∨ zZ cx ι s b) ι' w (c.view s.obj) x
  | .p fr c, x, hx, hcl, hl => by
    intro ι'
    have key : RepP (fun b => l = true ∨ zZ cx ι s b) w c x := by
      rw [rep_p] at hx
      refine hx.mono fun b hb _ => ⟨rfl, .inr ?_⟩
      cases fr
      · exact hb
      · have hb : zF cx ι s b := hb
        exact ⟨.inr hb.1, hb.2⟩
    cases c with
    | v y => simp only [AV.view]; cases key; exact rep_mkv _
    | _ => simp only [AV.view]; exact .pf _ _ key
  | .own i, x, hx, hcl, hl => by
    intro ι'
    cases hx
    simp only [AV.view] at hcl ⊢
    split
    · rename_i fr esz n g h
      have hl := hl rfl
      exact .pf _ _ ((hm.obs i _ h).frozen (fun b hb hl' => .inl hl) (fun b hb => .inl hl))
    · rename_i h
      split at hcl
      · rename_i fr esz n g h'; exact (h _ _ _ _ h').elim
      · simp [AV.closed] at hcl
  | .adr i o, x, hx, hcl, hl => by simp [AV.view, AV.closed] at hcl
  | .elt i p q r, x, hx, hcl, hl => by simp [AV.view, AV.closed] at hcl
  | .ag cs, x, hx, hcl, hl => by
    intro ι'
    cases hx with
    | ag _ xs h1 h2 =>
      simp only [AV.view, AV.closed] at hcl ⊢
      exact .ag _ xs (h1.trans (views_rep hm (fun j c => xs.getD j undef) h2 hcl hl ι').1) (views_rep hm (fun j c => xs.getD j undef) h2 hcl hl ι').2
  | .tp cs, x, hx, hcl, hl => by
    intro ι'
    cases hx with
    | tp _ xs h1 h2 =>
      simp only [AV.view, AV.closed] at hcl ⊢
      exact .tp _ xs (h1.trans (views_rep hm (fun j c => xs.getD j undef) h2 hcl hl ι').1) (views_rep hm (fun j c => xs.getD j undef) h2 hcl hl ι').2
  | .cl f p q, x, hx, hcl, hl => by
    intro ι'
    cases hx with
    | cl _ _ _ fs xs h1 h2 h3 h4 =>
      simp only [AV.view, AV.closed, Bool.and_eq_true] at hcl ⊢
      have hl1 : AV.lents p = true → l = true := fun h => hl (by simp [AV.lent, h])
      have hl2 : AV.lents q = true → l = true := fun h => hl (by simp [AV.lent, h])
      exact .cl f _ _ fs xs (h1.trans (views_rep hm (fun j c => fs.getD j undef) h3 hcl.1 hl1 ι').1) (h2.trans (views_rep hm (fun j c => xs.getD j undef) h4 hcl.2 hl2 ι').1)
        (views_rep hm (fun j c => fs.getD j undef) h3 hcl.1 hl1 ι').2 (views_rep hm (fun j c => xs.getD j undef) h4 hcl.2 hl2 ι').2
theorem views_rep (hm : Models cx ι s a w) {l : Bool} : ∀ {cs : List AV} (v : Nat → AV → Value), (∀ j c, cs[j]? = some c → RepA (zF cx ι s) (zZ cx ι s) ι w c (v j c)) → AV.closeds (AV.views s.obj cs) = true →
    (AV.lents cs = true → l = true) → ∀ ι', cs.length = (AV.views s.obj cs).length ∧ ∀ j d, (AV.views s.obj cs)[j]? = some d → RepA (fun _ => False) (fun b => l = true ∨ zZ cx ι s b) ι' w d (v j (cs.getD j default))
  | [], v, h, hcl, hl, ι' => ⟨rfl, fun j d h => by simp [AV.views] at h⟩
  | c :: cs, v, h, hcl, hl, ι' => by
    simp only [AV.views, AV.closeds, Bool.and_eq_true] at hcl
    obtain ⟨h1, h2⟩ := views_rep hm (cs := cs) (fun j c => v (j + 1) c) (fun j c hj => h (j + 1) c (by simpa using hj)) hcl.2 (fun e => hl (by simp [AV.lents, e])) ι'
    refine ⟨by simp [AV.views, h1], fun j d hj => ?_⟩
    cases j with
    | zero =>
      simp only [AV.views, List.getElem?_cons_zero, Option.some.injEq] at hj
      subst hj
      exact view_rep hm (h 0 c rfl) hcl.1 (fun e => hl (by simp [AV.lents, e])) ι'
    | succ j => exact h2 j d (by simpa [AV.views] using hj)
end

theorem run_callFunc {f : FuncId} (h : ∃ fn, P.funcs[f]? = some fn ∧ fn.body.isSome = true ∧ (fn.name == "runtime.NumGoroutine") = false) (args : Array Value) (w : World) :
    (callFunc f args).run P w = .ok (.enter f args) w := by
  obtain ⟨fn, h1, h2, h3⟩ := h
  have h4 : fn.body.isNone = false := by cases hb : fn.body <;> simp_all
  simp only [callFunc, Sem.run_bind, run_program, Result.andThen_ok, h1, h3, h4, Bool.false_eq_true, if_false, Sem.run_pure]

/-- A call by its contract. -/
theorem call_upon (hm : Models cx ι s a w) {f : FuncId} {args : List AV} {K : AV → Prop} (h : ACall P cx.G det f (AV.views s.obj args) (AV.lents args) K) {vs : Array Value}
    (hl : vs.size = args.length) (hr : ∀ j c, args[j]? = some c → RepA (zF cx ι s) (zZ cx ι s) ι w c (vs.getD j undef))
    {o : Oper} {next : Act → World → Prop} {Q : Exit → Act → World → Prop}
    (hn : ∀ ι' c v w', K c → Models cx ι' s a w' → RepA (zF cx ι' s) (zZ cx ι' s) ι' w' c v → next (a.put o.dst v) w') :
    o.upon P a next Q ((callFunc f vs).run P w) := by
  obtain ⟨hcl, R, ⟨hcan, hp⟩, _, hR⟩ := h
  have hv := fun ι' => views_rep hm (l := AV.lents args) (fun j c => vs.getD j undef) hr hcl (fun h => h) ι'
  rw [run_callFunc hcan, Oper.upon_enter]
  refine (hp w (fun b => AV.lents args = true ∨ zZ cx ι s b) vs (hl.trans (hv ι).1) (fun j d hj ι' => (hv ι').2 j d hj) (fun g c hg => (hm.gl g c hg).mono fun b hb _ => ⟨rfl, .inr hb⟩)).mono ?_
  rintro e w' ⟨x, r, rfl, hrr, hrep, hg⟩
  obtain ⟨hfr, hk⟩ := hR r hrr
  have hm' := hm.grow hg
  have hF : ∀ b, w.heap.size ≤ b → zF cx ι s b := fun b hb => ⟨.inr (Nat.le_trans hm.ext.size hb), fun ⟨i, o, h1, h2⟩ => by
    have := (hm.obs i o h1).blk_lt h2; omega⟩
  refine hn ι r x w' hk hm' ?_
  simp only [Bool.or_eq_true, Bool.not_eq_true'] at hfr
  rcases hfr with hfr | hfr
  · exact (hrep ι).mono (fun b hb _ => ⟨rfl, hF b hb⟩) (fun b hb _ => ⟨rfl, by
      rcases hb with (hb | hb) | hb
      · rw [hfr] at hb; cases hb
      · exact hb
      · exact ⟨.inr (hF b hb).1, (hF b hb).2⟩⟩) (fun _ _ => rfl)
  · exact rep_fresh ((hrep ι).mono (F' := zF cx ι s) (fun b hb _ => ⟨rfl, hF b hb⟩) (fun b hb _ => ⟨rfl, hb⟩) (fun _ _ => rfl)) hfr

theorem rep_args (hm : Models cx ι s a w) (args : Array Operand) : ∀ j c, (args.toList.map (opd cx.G s))[j]? = some c → RepA (zF cx ι s) (zZ cx ι s) ι w c ((args.map a.eval).getD j undef) := by
  intro j c hj
  simp only [List.getElem?_map, Option.map_eq_some_iff] at hj
  obtain ⟨x, hx, rfl⟩ := hj
  have : (args.map a.eval).getD j undef = a.eval x := by
    simp only [Array.getElem?_toList] at hx
    simp [Array.getD_eq_getD_getElem?, hx]
  rw [this]
  exact eval_rep hm x

theorem does_call {K : AV → St → Prop} {f : FuncId} {args : Array Operand} {ts : Array TypeId} {ty : TypeId} (h : AOp P cx.G det St.noid s d K (.call f args.toList)) :
    Does P cx s (.call { callee := .value (.func f), args := args, argTypes := ts }) ty K := by
  intro ι a w hm o ho hty next Q hn
  unfold Oper.wp
  have : (execOp a.eval o).run P w = (callFunc f (args.map a.eval)).run P w := by
    simp [execOp, ho, resolve, Deferred.ofValue, Act.eval, invoke]
  rw [this]
  simp only [AOp, IOp.isW, AQ] at h
  exact call_upon hm h (by simp) (rep_args hm args) (fun ι' c v w' hk hm' hr => hn ι' c s v w' hk hm' hr)

theorem getD_append (xs ys : Array Value) (j : Nat) : (xs ++ ys).getD j undef = if j < xs.size then xs.getD j undef else ys.getD (j - xs.size) undef := by
  simp only [Array.getD_eq_getD_getElem?, Array.getElem?_append]
  split <;> rfl

theorem rep_append {F Z : Nat → Prop} {as bs : List AV} {xs ys : Array Value} (h1 : xs.size = as.length) (ha : ∀ j c, as[j]? = some c → RepA F Z ι w c (xs.getD j undef))
    (hb : ∀ j c, bs[j]? = some c → RepA F Z ι w c (ys.getD j undef)) : ∀ j c, (as ++ bs)[j]? = some c → RepA F Z ι w c ((xs ++ ys).getD j undef) := by
  intro j c hj
  rw [getD_append, h1]
  rw [List.getElem?_append] at hj
  split at hj
  · rename_i hlt; rw [if_pos hlt]; exact ha j c hj
  · rename_i hlt; rw [if_neg hlt]; exact hb _ c hj

theorem does_callv {K : AV → St → Prop} {x : Operand} {args : Array Operand} {ts : Array TypeId} {ty : TypeId} (h : AOp P cx.G det St.noid s d K (.callv x args.toList)) :
    Does P cx s (.call { callee := .value x, args := args, argTypes := ts }) ty K := by
  intro ι a w hm o ho hty next Q hn
  unfold Oper.wp
  simp only [AOp, IOp.isW, AQ] at h
  have hrun : ∀ f fs cs, a.eval x = .func (.func f) fs cs → (execOp a.eval o).run P w = (callFunc f (fs ++ args.map a.eval ++ cs)).run P w := by
    intro f fs cs he
    simp [execOp, ho, resolve, Deferred.ofValue, he, invoke]
  have h1 := eval_rep hm x
  split at h
  · rename_i f p q hx
    rw [hx] at h1
    generalize he : a.eval x = y at h1
    cases h1 with
    | cl _ _ _ fs cs h1 h2 h3 h4 =>
      rw [hrun f fs cs he]
      exact call_upon hm h (by simp [h1, h2]) (rep_append (by simp [h1]) (rep_append h1 h3 (rep_args hm args)) h4) (fun ι' c v w' hk hm' hr => hn ι' c s v w' hk hm' hr)
  · rename_i fr f p q hx
    rw [hx, rep_p] at h1
    generalize he : a.eval x = y at h1
    cases h1 with
    | cl _ _ _ fs cs h1 h2 h3 h4 =>
      rw [hrun f fs cs he]
      refine call_upon hm h (by simp [h1, h2]) (rep_append (by simp [h1]) (rep_append (by simp [h1]) (fun j c hj => ?_) (rep_args hm args)) (fun j c hj => ?_)) (fun ι' c v w' hk hm' hr => hn ι' c s v w' hk hm' hr)
      · simp only [List.getElem?_map, Option.map_eq_some_iff] at hj
        obtain ⟨d, hd, rfl⟩ := hj
        exact rep_p.2 (h3 j d hd)
      · simp only [List.getElem?_map, Option.map_eq_some_iff] at hj
        obtain ⟨d, hd, rfl⟩ := hj
        exact rep_p.2 (h4 j d hd)
  · exact h.elim
end
end Go.Fw
