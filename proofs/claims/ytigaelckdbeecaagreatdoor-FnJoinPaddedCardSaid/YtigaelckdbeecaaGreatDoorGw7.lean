/- Operations that make or change no object; with no condition. -/
import Derived.Test.YtigaelckdbeecaaGreatDoorGw5
import Derived.Laws.Cells
import Derived.Laws.Append
import Derived.Laws.CopyRow
import Derived.Laws.Entries
import Derived.Laws.OwnMore
import Derived.Laws.Slices
import Derived.Laws.BytesString
namespace Go.Gw
open Go
set_option linter.unusedVariables false
set_option linter.unusedSimpArgs false
def Cnd.holds (P : Program) (G : List (Nat × PV)) (ob : Nat → Option Ob) (d : Nat) (det : Bool) (K : AV → Upd → Prop) : Cnd → Prop
  | .fail => False
  | .val b p c u => b = true ∧ opt p ∧ K c u
  | .ite b c e => (b = true → K c []) ∧ (b = false → K e [])
  | .either p c e => det = false ∧ (p → K c []) ∧ K e []
  | .call f vs => ACall P G det ob d f vs K
def Sound (P : Program) (cx : Cx) (op : Op) (iop : IOp) : Prop :=
  ∀ (det : Bool) (ι : Nat → Value) (ow : Nat → Option Nat) (s : St) (a : Act) (w : World) (d : Nat) (K : AV → Upd → Prop), Models cx ι ow s a w →
    (res s.obj d (iop.opds.map (opd cx.G s)) iop).holds P cx.G s.obj d det K → (∀ e, e ∈ iop.fresh d → s.noid e) →
    ∀ (o : Oper), o.op = op → ∀ (next : Act → World → Prop) (Q : Exit → Act → World → Prop),
      (∀ ι' ow' c u v w', K c u → Models cx ι' ow' (s.upd u) a w' → RepA (zF cx ow') (zZ cx ow') ι' w' c v → next (a.put o.dst v) w') → o.wp P a w next Q
theorem addr_add (b off j : Nat) : (⟨b, off, none⟩ : Addr).add j = ⟨b, off + j, none⟩ := by unfold Addr.add; split <;> simp_all
def aggD : TypeDesc → Bool
  | .struct _ => true
  | .array _ _ => true
  | _ => false
section
variable {P : Program} {cx : Cx} {ι : Nat → Value} {ow : Nat → Option Nat} {s : St} {a : Act} {w : World} {d : Nat}
theorem eval_rep (hm : Models cx ι ow s a w) (x : Operand) : RepA (zF cx ow) (zZ cx ow) ι w (opd cx.G s x) (a.eval x) := by
  cases x with
  | tmp t => exact hm.env t
  | const v =>
    simp only [opd, Act.eval]
    split
    · rename_i xs
      refine .ag _ _ (by simp) fun j c hj => ?_
      simp only [List.getElem?_map, Option.map_eq_some_iff, Array.getElem?_toList] at hj
      obtain ⟨v, hv, rfl⟩ := hj
      rw [show xs.getD j undef = v by simp [Array.getD_eq_getD_getElem?, hv]]
      exact .pt _ _ (.v v)
    · exact .pt _ _ (.v _)
  | global g =>
    simp only [opd, Act.eval]
    cases h : look cx.G g with
    | none => exact .pf _ _ (.any _)
    | some c => exact .pf _ _ (hm.gl g c h)
  | func f => exact .cl f [] [] #[] #[] rfl rfl (fun j c h => by simp at h) (fun j c h => by simp at h)
theorem run_equal_bool {t : TypeId} (ht : P.underlying t = some .bool) (a b : Bool) (w : World) : (Op.equal t (.bool a) (.bool b)).run P w = .ok (a == b) w := by
  have key : ∀ d : Nat, (Op.equalIn (d + 1) t (.bool a) (.bool b)).run P w = .ok (a == b) w := fun d => by
    simp only [Op.equalIn, Sem.run_bind, run_underlying ht, Result.andThen_ok, Sem.run_pure]
  exact key 9999
theorem run_size {t : TypeId} {n : Nat} (h : (P.info? t).map (·.size) = some n) (w : World) : (sizeOf t).run P w = .ok n w := by
  cases hi : P.info? t with
  | none => simp [hi] at h
  | some i => simp [hi] at h; simp [sizeOf, typeInfo, hi, h]
theorem Sound.value {op : Op} {iop : IOp}
    (h : ∀ (det : Bool) ι ow s a w d (K : AV → Upd → Prop), Models cx ι ow s a w → (res s.obj d (iop.opds.map (opd cx.G s)) iop).holds P cx.G s.obj d det K →
      ∃ c v, K c [] ∧ RepA (zF cx ow) (zZ cx ow) ι w c v ∧ ∀ o : Oper, o.op = op → (execOp a.eval o).run P w = .ok (.value v) w) : Sound P cx op iop := by
  intro det ι ow s a w d K hm hh _ o ho next Q hn
  obtain ⟨c, v, hk, hr, he⟩ := h det ι ow s a w d K hm hh
  unfold Oper.wp
  rw [he o ho, Oper.upon_value]
  exact hn ι ow c [] v w hk hm hr
theorem sound_mov {x : Operand} : Sound P cx (.move x) (.mov x) :=
  .value fun _ ι ow s a w d K hm h => ⟨_, _, h.2.2, eval_rep hm x, fun o ho => by simp [execOp, ho]⟩
theorem sound_assign {x : Operand} : Sound P cx (.assign x) (.mov x) :=
  .value fun _ ι ow s a w d K hm h => ⟨_, _, h.2.2, eval_rep hm x, fun o ho => by simp [execOp, ho]⟩
theorem sound_pick {c x y : Operand} : Sound P cx (.pick c x y) (.pick c x y) :=
  .value fun _ ι ow s a w d K hm h => by
    simp only [IOp.opds, List.map_cons, List.map_nil, res] at h
    split at h
    · rename_i fr t c' d' hvs
      simp only [List.cons.injEq, and_true] at hvs
      obtain ⟨hc, rfl, rfl⟩ := hvs
      have he := eval_rep hm c
      rw [hc] at he
      have he := rep_v he
      cases t with
      | true => exact ⟨_, _, h.1 rfl, eval_rep hm x, fun o ho => by simp [execOp, ho, he, asBool]⟩
      | false => exact ⟨_, _, h.2 rfl, eval_rep hm y, fun o ho => by simp [execOp, ho, he, asBool]⟩
    · exact h.elim
theorem sound_bin {op : BinOp} {t u : TypeId} {x y : Operand} : Sound P cx (.binOp op t x y u) (.bin op x y) :=
  .value fun _ ι ow s a w d K hm h => by
    simp only [IOp.opds, List.map_cons, List.map_nil, res] at h
    split at h
    · rename_i fr k n fr' k' m hvs
      simp only [List.cons.injEq, and_true] at hvs
      obtain ⟨hx, hy⟩ := hvs
      have h1 := eval_rep hm x
      have h2 := eval_rep hm y
      rw [hx] at h1
      rw [hy] at h2
      have h1 := rep_v h1
      have h2 := rep_v h2
      have hg : ∀ op, (eqGuard op t x y (.int k n) (.int k' m)).run P w = .ok () w := by intro op; cases op <;> simp [eqGuard]
      cases op <;> simp only [binR, Cnd.holds, opt, decide_eq_true_eq, true_and] at h
      case quo => obtain ⟨rfl, h0, h⟩ := h; exact ⟨_, _, h, rep_mkv _, fun o ho => by simp [execOp, ho, h1, h2, binOp, hg, Op.intDiv, h0]⟩
      case rem => obtain ⟨rfl, h0, h⟩ := h; exact ⟨_, _, h, rep_mkv _, fun o ho => by simp [execOp, ho, h1, h2, binOp, hg, Op.intDiv, h0]⟩
      case shl => obtain ⟨h0, h⟩ := h; exact ⟨_, _, h, rep_mkv _, fun o ho => by simp [execOp, ho, h1, h2, binOp, hg, Op.shift, Int.not_lt.2 h0]⟩
      case shr => obtain ⟨h0, h⟩ := h; exact ⟨_, _, h, rep_mkv _, fun o ho => by simp [execOp, ho, h1, h2, binOp, hg, Op.shift, Int.not_lt.2 h0]⟩
      all_goals
        obtain ⟨rfl, h⟩ := h
        exact ⟨_, _, h, rep_mkv _, fun o ho => by simp [execOp, ho, h1, h2, binOp, hg, Op.intArith, Op.intBits, Op.intCmp]⟩
    · rename_i fr n fr' m hvs
      simp only [List.cons.injEq, and_true] at hvs
      obtain ⟨hx, hy⟩ := hvs
      have h1 := eval_rep hm x
      have h2 := eval_rep hm y
      rw [hx] at h1
      rw [hy] at h2
      have h1 := rep_v h1
      have h2 := rep_v h2
      have hg : ∀ op, (eqGuard op t x y (.string n) (.string m)).run P w = .ok () w := by intro op; cases op <;> simp [eqGuard]
      cases op <;> simp only [strR, Cnd.holds, opt, true_and] at h
      case add => obtain ⟨h0, h⟩ := h; exact ⟨_, _, h, rep_mkv _, fun o ho => by simp only [execOp, ho, h1, h2, binOp, Sem.run_bind, hg, Op.stringOp, Result.andThen_ok]; rw [if_neg (by omega)]; simp⟩
      all_goals first
        | exact h.elim
        | exact ⟨_, _, h, rep_mkv _, fun o ho => by simp [execOp, ho, h1, h2, binOp, hg, Op.stringOp]⟩
    · exact h.elim
theorem sound_binB {op : BinOp} {t u : TypeId} {x y : Operand} (ht : P.underlying t = some .bool) : Sound P cx (.binOp op t x y u) (.binB op x y) :=
  .value fun _ ι ow s a w d K hm h => by
    simp only [IOp.opds, List.map_cons, List.map_nil, res] at h
    split at h
    · rename_i fr n fr' m hvs
      simp only [List.cons.injEq, and_true] at hvs
      obtain ⟨hx, hy⟩ := hvs
      have h1 := eval_rep hm x
      have h2 := eval_rep hm y
      rw [hx] at h1
      rw [hy] at h2
      split at h
      · exact ⟨_, _, h.2.2, rep_mkv _, fun o ho => by simp [execOp, ho, rep_v h1, rep_v h2, binOp, eqGuard, run_equal_bool ht]⟩
      · exact ⟨_, _, h.2.2, rep_mkv _, fun o ho => by simp [execOp, ho, rep_v h1, rep_v h2, binOp, eqGuard, run_equal_bool ht]⟩
      · exact h.elim
    · exact h.elim
theorem sound_un {op : UnOp} {t : TypeId} {x : Operand} : Sound P cx (.unOp op t x) (.un op x) :=
  .value fun _ ι ow s a w d K hm h => by
    simp only [IOp.opds, List.map_cons, List.map_nil, res] at h
    split at h
    · rename_i fr n hvs
      simp only [List.cons.injEq, and_true] at hvs
      have h1 := eval_rep hm x
      rw [hvs] at h1
      split at h
      · exact ⟨_, _, h.2.2, rep_mkv _, fun o ho => by simp [execOp, ho, rep_v h1, Op.unary]⟩
      · exact h.elim
    · rename_i fr k n hvs
      simp only [List.cons.injEq, and_true] at hvs
      have h1 := eval_rep hm x
      rw [hvs] at h1
      split at h
      · exact ⟨_, _, h.2.2, rep_mkv _, fun o ho => by simp [execOp, ho, rep_v h1, Op.unary, Op.intArith]⟩
      · exact h.elim
    · exact h.elim
theorem sound_ext {x : Operand} {i : Nat} : Sound P cx (.extract x i) (.ext x i) :=
  .value fun _ ι ow s a w d K hm h => by
    simp only [IOp.opds, List.map_cons, List.map_nil, res] at h
    split at h
    · rename_i cs hvs
      simp only [List.cons.injEq, and_true] at hvs
      split at h
      · rename_i c hc
        have h1 := eval_rep hm x
        rw [hvs] at h1
        generalize he : a.eval x = y at h1
        cases h1 with
        | tp _ xs h1 h2 =>
          have hi : i < xs.size := by rw [h1]; exact (List.getElem?_eq_some_iff.1 hc).1
          exact ⟨c, _, h.2.2, h2 i c hc, fun o ho => by simp [execOp, ho, he, Instr.extract, hi, Array.getD_eq_getD_getElem?]⟩
      · exact h.elim
    · exact h.elim
theorem rep_args (hm : Models cx ι ow s a w) (args : List Operand) : ∀ j c, (args.map (opd cx.G s))[j]? = some c → RepA (zF cx ow) (zZ cx ow) ι w c ((args.toArray.map a.eval).getD j undef) := by
  intro j c hj
  simp only [List.getElem?_map, Option.map_eq_some_iff] at hj
  obtain ⟨x, hx, rfl⟩ := hj
  have : (args.toArray.map a.eval).getD j undef = a.eval x := by
    simp [Array.getD_eq_getD_getElem?, hx]
  rw [this]
  exact eval_rep hm x
theorem sound_mkFn {f : FuncId} {fs caps : Array Operand} : Sound P cx (.makeFunc (.func f) fs caps) (.mkFn f fs.toList caps.toList) :=
  .value fun _ ι ow s a w d K hm h => by
    simp only [IOp.opds, List.map_append, res, Cnd.holds] at h
    refine ⟨_, .func (.func f) (fs.map a.eval) (caps.map a.eval), h.2.2, ?_, fun o ho => by simp [execOp, ho, Instr.makeFunc]⟩
    have e1 : (List.map (opd cx.G s) fs.toList ++ List.map (opd cx.G s) caps.toList).take fs.toList.length = List.map (opd cx.G s) fs.toList := by
      rw [List.take_append_of_le_length (by simp)]; exact List.take_of_length_le (by simp)
    have e2 : (List.map (opd cx.G s) fs.toList ++ List.map (opd cx.G s) caps.toList).drop fs.toList.length = List.map (opd cx.G s) caps.toList := by
      rw [List.drop_append_of_le_length (by simp)]; simp
    rw [e1, e2]
    exact .cl f _ _ _ _ (by simp) (by simp) (fun j c hj => by simpa using rep_args hm fs.toList j c hj) (fun j c hj => by simpa using rep_args hm caps.toList j c hj)
theorem sound_fadr {x : Operand} {t : TypeId} {i : Nat} {fs : Array Field} {f : Field}
    (ht : P.underlying t = some (.struct fs)) (hf : fs[i]? = some f) {n : Nat} (hn : (P.info? f.type).map (·.size) = some n) (hn0 : n ≠ 0) : Sound P cx (.fieldAddr t x i) (.fadr f.offset x) :=
  .value fun _ ι ow s a w d K hm h => by
    simp only [IOp.opds, List.map_cons, List.map_nil, res] at h
    have hrun : ∀ (b off : Nat), a.eval x = .pointer (some ⟨b, off, none⟩) → ∀ o : Oper, o.op = .fieldAddr t x i →
        (execOp a.eval o).run P w = .ok (.value (.pointer (some ⟨b, off + f.offset, none⟩))) w := by
      intro b off he o ho
      have hadd : (⟨b, off, none⟩ : Addr).add f.offset = ⟨b, off + f.offset, none⟩ := addr_add _ _ _
      simp [execOp, ho, he, Instr.fieldAt, run_underlying ht, hf, Instr.sureAddr, fieldPlace, run_size hn, hn0, hadd]
    have h1 := eval_rep hm x
    split at h
    · rename_i fr m g hvs
      simp only [List.cons.injEq, and_true] at hvs
      rw [hvs, rep_p] at h1
      generalize he : a.eval x = y at h1
      cases h1 with
      | pp _ _ b off val hc hr hz =>
        refine ⟨_, _, h.2.2, rep_p.2 ?_, fun o ho => hrun b off he o ho⟩
        refine .pp _ _ b (off + f.offset) (fun j => val (f.offset + j)) (fun j hj => ?_) (fun j hj => ?_) (fun j hj => ?_)
        · rw [show off + f.offset + j = off + (f.offset + j) by omega]; exact hc _ (by omega)
        · exact hr _ (by omega)
        · exact hz (f.offset + j) (by omega)
    · rename_i k off hvs
      simp only [List.cons.injEq, and_true] at hvs
      rw [hvs] at h1
      generalize he : a.eval x = y at h1
      cases h1 with
      | adr _ _ b hb => exact ⟨_, _, h.2.2, .adr k _ b hb, fun o ho => hrun b off he o ho⟩
    · rename_i k esz m off hvs
      simp only [List.cons.injEq, and_true] at hvs
      rw [hvs] at h1
      generalize he : a.eval x = y at h1
      cases h1 with
      | elt _ _ _ _ b n cap hb => exact ⟨_, _, h.2.2, .elt k esz m _ b n cap hb, fun o ho => by rw [hrun b _ he o ho, Nat.add_assoc]⟩
    · exact h.elim
theorem run_agg {t : TypeId} {d : TypeDesc} (h : P.underlying t = some d) (w : World) : (isAgg t).run P w = .ok (aggD d) w := by
  simp only [isAgg, Sem.run_bind, run_underlying h, Result.andThen_ok]
  cases d <;> simp [aggD]
theorem run_loadVar {t : TypeId} {d : TypeDesc} {n : Nat} (ht : P.underlying t = some d) (hn : (P.info? t).map (·.size) = some n)
    {b off : Nat} (val : Nat → Value) (hc : ∀ j, j < n → w.cell? ⟨b, off + j, none⟩ = some (val j)) (h1 : aggD d = false → 0 < n) :
    (loadVar t ⟨b, off, none⟩).run P w = .ok (if aggD d then .agg ((List.range n).map val).toArray else val 0) w := by
  simp only [loadVar, Sem.run_bind, run_agg ht, Result.andThen_ok]
  cases hd : aggD d with
  | true =>
    simp only [if_true, Sem.run_bind, run_size hn, Result.andThen_ok, run_loadCells w ⟨b, off, none⟩ n val (fun j hj => by rw [addr_add]; exact hc j hj), Sem.run_pure]
  | false =>
    have := hc 0 (h1 hd)
    rw [Nat.add_zero] at this
    simp [this]
theorem getD_range_map (n : Nat) (f : Nat → Value) (j : Nat) (h : j < n) : ((List.range n).map f).toArray.getD j undef = f j := by
  simp [Array.getD_eq_getD_getElem?, h]
theorem run_loadAt {t : TypeId} {x : Operand} {b off : Nat} (he : a.eval x = .pointer (some ⟨b, off, none⟩)) {v : Value} (hv : (loadVar t ⟨b, off, none⟩).run P w = .ok v w)
    (o : Oper) (ho : o.op = .load t x) : (execOp a.eval o).run P w = .ok (.value v) w := by
  simp [execOp, ho, he, Instr.loadAt, Instr.sureAddr, hv]
theorem sound_idx {t e : TypeId} {esz : Nat} {x i : Operand} (ht : P.underlying t = some (.slice e)) (hn : (P.info? e).map (·.size) = some esz) : Sound P cx (.indexAddr t x i) (.idx esz x i) :=
  .value fun _ ι ow s a w d K hm h => by
    simp only [IOp.opds, List.map_cons, List.map_nil, res] at h
    have h1 := eval_rep hm x
    have h2 := eval_rep hm i
    split at h
    · rename_i xv fri kd n hvs
      simp only [List.cons.injEq, and_true] at hvs
      obtain ⟨rfl, hi⟩ := hvs
      rw [hi] at h2
      have h2 := rep_v h2
      have hrun : ∀ (b off len cap : Nat), a.eval x = .slice (some ⟨b, off, none⟩) len cap → 0 ≤ n → n.toNat < len → ∀ o : Oper, o.op = .indexAddr t x i →
          (execOp a.eval o).run P w = .ok (.value (.pointer (some ⟨b, off + n.toNat * esz, none⟩))) w := by
        intro b off len cap h1 h3 h4 o ho
        have h5 : n < (len : Int) := by omega
        simp [execOp, ho, h1, h2, Instr.indexAt, asIntOf, run_underlying ht, h3, h5, run_size hn, addr_add]
      split at h
      · rename_i fr nn esz' m g hx
        simp only [Cnd.holds, opt, decide_eq_true_eq] at h
        obtain ⟨rfl, ⟨h0, hlt⟩, h⟩ := h
        rw [hx, rep_p] at h1
        generalize he : a.eval x = y at h1
        cases h1 with
        | nil => omega
        | emp => omega
        | sl _ _ _ _ b off cap val hc hr hz hcap =>
          refine ⟨_, _, h, rep_p.2 ?_, fun o ho => hrun b off _ cap he h0 hlt o ho⟩
          exact .pp _ _ b _ (fun j => val n.toNat j) (fun j hj => hc n.toNat j hlt hj) (fun j hj => hr n.toNat j hlt hj) (fun j hj => hz n.toNat j hlt hj)
      · rename_i j hx
        split at h
        · rename_i m' nn esz' m g hl ho
          simp only [Cnd.holds, opt, decide_eq_true_eq] at h
          obtain ⟨rfl, ⟨h0, hlt⟩, h⟩ := h
          rw [hx] at h1
          generalize he : a.eval x = y at h1
          cases h1 with
          | own _ =>
            rcases hm.obs j _ ho with ⟨rfl, _⟩ | ⟨b, cap, c, tt, q, h4, _⟩
            · omega
            · refine ⟨_, .pointer (some ⟨b, n.toNat * esz + 0, none⟩), h, .elt j esz n.toNat 0 b m cap h4, fun o ho => ?_⟩
              rw [hrun b 0 _ cap (he.trans h4) h0 hlt o ho]
              simp
        · exact h.elim
      · exact h.elim
    · exact h.elim
theorem sound_idxS {t : TypeId} {x i : Operand} (ht : P.underlying t = some .string) : Sound P cx (.index t x i) (.idxS x i) :=
  .value fun _ ι ow s a w d K hm h => by
    simp only [IOp.opds, List.map_cons, List.map_nil, res] at h
    have h1 := eval_rep hm x
    have h2 := eval_rep hm i
    split at h
    · rename_i fr b fr' kd n hvs
      simp only [List.cons.injEq, and_true] at hvs
      obtain ⟨hx, hi⟩ := hvs
      rw [hx] at h1
      rw [hi] at h2
      have h1 := rep_v h1
      have h2 := rep_v h2
      simp only [Cnd.holds, opt, true_and] at h
      obtain ⟨⟨h0, hlt⟩, h⟩ := h
      refine ⟨_, _, h, rep_mkv _, fun o ho => ?_⟩
      have hb : b[n.toNat]? = some (b.data.toList.getD n.toNat 0) := by
        have hlt' : n.toNat < b.data.size := hlt
        have e1 : b[n.toNat]? = some b[n.toNat] := by simp [hlt]
        rw [e1]
        have e2 : b[n.toNat] = b.data[n.toNat] := rfl
        rw [e2]
        simp [List.getD, Array.getElem?_eq_getElem hlt']
      simp [execOp, ho, h1, h2, Instr.index, asIntOf, run_underlying ht, h0, hb]
    · exact h.elim
theorem sound_lenS {t : TypeId} {x : Operand} (ht : P.underlying t = some .string) : Sound P cx (.call { callee := .builtin .len, args := #[x], argTypes := #[t] }) (.lenS x) :=
  .value fun _ ι ow s a w d K hm h => by
    simp only [IOp.opds, List.map_cons, List.map_nil, res] at h
    have h1 := eval_rep hm x
    split at h
    · rename_i fr b hvs
      simp only [List.cons.injEq, and_true] at hvs
      rw [hvs] at h1
      have h1 := rep_v h1
      exact ⟨_, _, h.2.2, rep_mkv _, fun o ho => by simp [execOp, ho, resolve, invoke, builtin, Builtin.len_, h1, run_underlying ht, goInt]⟩
    · exact h.elim
theorem sound_len {t e : TypeId} {x : Operand} (ht : P.underlying t = some (.slice e)) : Sound P cx (.call { callee := .builtin .len, args := #[x], argTypes := #[t] }) (.len x) :=
  .value fun _ ι ow s a w d K hm h => by
    simp only [IOp.opds, List.map_cons, List.map_nil, res] at h
    have h1 := eval_rep hm x
    have hsl : ∀ (p : Option Addr) (n cap : Nat), a.eval x = .slice p n cap → ∀ o : Oper, o.op = .call { callee := .builtin .len, args := #[x], argTypes := #[t] } →
        (execOp a.eval o).run P w = .ok (.value (.int .i64 n)) w := by
      intro p n cap h1 o ho
      simp [execOp, ho, resolve, invoke, builtin, Builtin.len_, h1, run_underlying ht, goInt]
    split at h
    · rename_i fr nn esz n g hvs
      simp only [List.cons.injEq, and_true] at hvs
      rw [hvs, rep_p] at h1
      generalize he : a.eval x = y at h1
      cases h1 with
      | nil => exact ⟨_, _, h.2.2, rep_mkv _, fun o ho => hsl _ _ _ he o ho⟩
      | emp _ _ _ b cap => exact ⟨_, _, h.2.2, rep_mkv _, fun o ho => hsl _ _ _ he o ho⟩
      | sl _ _ _ _ b off cap val hc hr hz hcap => exact ⟨_, _, h.2.2, rep_mkv _, fun o ho => hsl _ _ _ he o ho⟩
    · rename_i fr p n cap hvs
      simp only [List.cons.injEq, and_true] at hvs
      rw [hvs] at h1
      exact ⟨_, _, h.2.2, rep_mkv _, fun o ho => hsl _ _ _ (rep_v h1) o ho⟩
    · rename_i j hvs
      simp only [List.cons.injEq, and_true] at hvs
      split at h
      · rename_i m nn esz n g hl ho
        rw [hvs] at h1
        generalize he : a.eval x = y at h1
        cases h1 with
        | own _ =>
          rcases hm.obs j _ ho with ⟨rfl, ⟨_, h4⟩ | ⟨b, off, h4⟩⟩ | ⟨b, cap, c, tt, q, h4, _⟩
          · exact ⟨_, _, h.2.2, rep_mkv _, fun o ho => hsl _ _ _ (he.trans h4) o ho⟩
          · exact ⟨_, _, h.2.2, rep_mkv _, fun o ho => hsl _ _ _ (he.trans h4) o ho⟩
          · exact ⟨_, _, h.2.2, rep_mkv _, fun o ho => hsl _ _ _ (he.trans h4) o ho⟩
      · exact h.elim
    · exact h.elim
theorem sound_conv {t u : TypeId} {k : IntKind} {sd : TypeDesc} {x : Operand} (ht : P.underlying t = some sd) (hu : P.underlying u = some (.int k)) : Sound P cx (.convert t u x) (.conv k x) :=
  .value fun _ ι ow s a w d K hm h => by
    simp only [IOp.opds, List.map_cons, List.map_nil, res] at h
    have h1 := eval_rep hm x
    split at h
    · rename_i fr kd n hvs
      simp only [List.cons.injEq, and_true] at hvs
      rw [hvs] at h1
      have h1 := rep_v h1
      exact ⟨_, _, h.2.2, rep_mkv _, fun o ho => by simp [execOp, ho, h1, convert, run_underlying ht, run_underlying hu, Conv.intToInt]⟩
    · exact h.elim
theorem sound_nilck {x : Operand} : Sound P cx (.nilCheck x) (.nilck x) :=
  .value fun _ ι ow s a w d K hm h => by
    simp only [IOp.opds, List.map_cons, List.map_nil, res] at h
    have h1 := eval_rep hm x
    split at h
    · rename_i k off hvs
      simp only [List.cons.injEq, and_true] at hvs
      rw [hvs] at h1
      generalize he : a.eval x = y at h1
      have h1' := h1
      cases h1 with
      | adr _ _ b hb => exact ⟨_, _, h.2.2, h1', fun o ho => by simp [execOp, ho, he]⟩
    · rename_i i e k off hvs
      simp only [List.cons.injEq, and_true] at hvs
      rw [hvs] at h1
      generalize he : a.eval x = y at h1
      have h1' := h1
      cases h1 with
      | elt _ _ _ _ b n cap hb => exact ⟨_, _, h.2.2, h1', fun o ho => by simp [execOp, ho, he]⟩
    · rename_i fr m g hvs
      simp only [List.cons.injEq, and_true] at hvs
      rw [hvs] at h1
      generalize he : a.eval x = y at h1
      have h1' := h1
      rw [rep_p] at h1
      cases h1 with
      | pp _ _ b off val hc hr hz => exact ⟨_, _, h.2.2, h1', fun o ho => by simp [execOp, ho, he]⟩
    · exact h.elim
theorem sound_mm {mx : Bool} {t u : TypeId} {x y : Operand} : Sound P cx (.call { callee := .builtin (if mx then .max else .min), args := #[x, y], argTypes := #[t, u] }) (.mm mx x y) :=
  .value fun _ ι ow s a w d K hm h => by
    simp only [IOp.opds, List.map_cons, List.map_nil, res] at h
    split at h
    · rename_i fr k n fr' k' m hvs
      simp only [List.cons.injEq, and_true] at hvs
      obtain ⟨hx, hy⟩ := hvs
      have h1 := eval_rep hm x
      have h2 := eval_rep hm y
      rw [hx] at h1
      rw [hy] at h2
      have h1 := rep_v h1
      have h2 := rep_v h2
      refine ⟨_, _, h.2.2, rep_mkv _, fun o ho => ?_⟩
      cases mx with
      | true => simp [execOp, ho, resolve, invoke, builtin, h1, h2, Builtin.max_, Builtin.max2]
      | false => simp [execOp, ho, resolve, invoke, builtin, h1, h2, Builtin.min_, Builtin.min2]
    · exact h.elim
theorem sound_isNil {neq : Bool} {t u e : TypeId} {x : Operand} (ht : P.underlying t = some (.slice e)) :
    Sound P cx (.binOp (if neq then .neq else .eql) t x (.const (.slice none 0 0)) u) (.isNil neq x) :=
  .value fun _ ι ow s a w d K hm h => by
    simp only [IOp.opds, List.map_cons, List.map_nil, res] at h
    have h1 := eval_rep hm x
    have hg : ∀ op v, (eqGuard op t x (.const (.slice none 0 0)) v (.slice none 0 0)).run P w = .ok () w := by
      intro op v; cases op <;> cases v <;> simp [eqGuard]
    have key : ∀ (p : Option Addr) (n c : Nat), (Op.equal t (.slice p n c) (.slice none 0 0)).run P w = .ok p.isNone w := by
      intro p n c
      have : ∀ d : Nat, (Op.equalIn (d + 1) t (.slice p n c) (.slice none 0 0)).run P w = .ok p.isNone w := fun d => by
        simp only [Op.equalIn, Sem.run_bind, run_underlying ht, Result.andThen_ok]
        cases p <;> simp [Op.equalIn]
      exact this 9999
    have fin : ∀ (p : Option Addr) (n c : Nat), a.eval x = .slice p n c → ∀ o : Oper, o.op = .binOp (if neq then .neq else .eql) t x (.const (.slice none 0 0)) u →
        (execOp a.eval o).run P w = .ok (.value (.bool (if neq then !p.isNone else p.isNone))) w := by
      intro p n c he o ho
      have hc : a.eval (.const (.slice none 0 0)) = .slice none 0 0 := rfl
      cases neq <;> simp [execOp, ho, he, hc, binOp, hg, key]
    split at h
    · rename_i fr hvs
      simp only [List.cons.injEq, and_true] at hvs
      rw [hvs] at h1
      have h1 := rep_v h1
      exact ⟨_, _, h.2.2, rep_mkv _, fun o ho => by rw [fin none 0 0 h1 o ho]; cases neq <;> rfl⟩
    · rename_i fr nn esz n g hvs
      simp only [List.cons.injEq, and_true] at hvs
      rw [hvs, rep_p] at h1
      generalize he : a.eval x = y at h1
      split at h
      · cases h1 with
        | emp _ _ _ b cap => exact ⟨_, _, h.2.2, rep_mkv _, fun o ho => by rw [fin _ _ _ he o ho]; cases neq <;> rfl⟩
        | sl _ _ _ _ b off cap val hc hr hz hcap => exact ⟨_, _, h.2.2, rep_mkv _, fun o ho => by rw [fin _ _ _ he o ho]; cases neq <;> rfl⟩
      · cases h1 with
        | nil => exact ⟨_, _, h.2.1 rfl, rep_mkv _, fun o ho => by rw [fin _ _ _ he o ho]; cases neq <;> rfl⟩
        | emp _ _ _ b cap => exact ⟨_, _, h.2.2, rep_mkv _, fun o ho => by rw [fin _ _ _ he o ho]; cases neq <;> rfl⟩
        | sl _ _ _ _ b off cap val hc hr hz hcap => exact ⟨_, _, h.2.2, rep_mkv _, fun o ho => by rw [fin _ _ _ he o ho]; cases neq <;> rfl⟩
    · rename_i j hvs
      simp only [List.cons.injEq, and_true] at hvs
      split at h
      · rename_i m nn esz n g hl ho
        rw [hvs] at h1
        generalize he : a.eval x = y at h1
        cases h1 with
        | own _ =>
          split at h
          · rcases hm.obs j _ ho with ⟨rfl, ⟨h3, h4⟩ | ⟨b, off, h4⟩⟩ | ⟨b, cap, c, tt, q, h4, _⟩
            · cases h3
            · exact ⟨_, _, h.2.2, rep_mkv _, fun o ho => by rw [fin _ _ _ (he.trans h4) o ho]; cases neq <;> rfl⟩
            · exact ⟨_, _, h.2.2, rep_mkv _, fun o ho => by rw [fin _ _ _ (he.trans h4) o ho]; cases neq <;> rfl⟩
          · rcases hm.obs j _ ho with ⟨rfl, ⟨h3, h4⟩ | ⟨b, off, h4⟩⟩ | ⟨b, cap, c, tt, q, h4, _⟩
            · exact ⟨_, _, h.2.1 rfl, rep_mkv _, fun o ho => by rw [fin _ _ _ (he.trans h4) o ho]; cases neq <;> rfl⟩
            · exact ⟨_, _, h.2.2, rep_mkv _, fun o ho => by rw [fin _ _ _ (he.trans h4) o ho]; cases neq <;> rfl⟩
            · exact ⟨_, _, h.2.2, rep_mkv _, fun o ho => by rw [fin _ _ _ (he.trans h4) o ho]; cases neq <;> rfl⟩
      · exact h.elim
    · exact h.elim
end
end Go.Gw
