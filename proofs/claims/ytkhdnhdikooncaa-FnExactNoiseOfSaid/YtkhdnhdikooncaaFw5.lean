/- Operations that make variables; regions, branches and loops; a function's contract out of its walk; with no condition. -/
import Derived.Test.YtkhdnhdikooncaaFw4
namespace Go.Fw
open Go
set_option linter.unusedVariables false
set_option linter.unusedSimpArgs false

theorem look_mem {α : Type} {l : List (Nat × α)} {t : Nat} {c : α} (h : look l t = some c) : (t, c) ∈ l := by
  induction l with
  | nil => simp [look] at h
  | cons x r ih =>
    obtain ⟨u, d⟩ := x
    simp only [look] at h
    split at h
    · rename_i he; subst he; simp only [Option.some.injEq] at h; subst h; exact List.mem_cons_self
    · exact List.mem_cons_of_mem _ (ih h)

theorem St.noid_of {s : St} {i : Nat} (h : s.noidB i = true) : s.noid i := by
  simp only [St.noidB, Bool.and_eq_true, List.all_eq_true] at h
  constructor
  · intro t
    unfold St.get
    cases hl : look s.env t with
    | none => rfl
    | some c => exact h.1 _ (look_mem hl)
  · intro j o ho
    exact h.2 _ (look_mem ho)

theorem fst_drop {s : St} {i : Nat} {o : Ob} : ((s.delOb i).setOb i o).obj i = some o := by rw [St.obj_setOb, if_pos rfl]

section
variable {P : Program} {cx : Cx} {ι : Nat → Value} {s : St} {a : Act} {w : World} {d : Nat} {det : Bool}

/-- A new variable. -/
theorem Models.newBox (hm : Models cx ι s a w) (hd : s.noid d) {cs : List AV} {xs : Array Value} {t : TypeId} (hl : xs.size = cs.length)
    (h : ∀ j c, cs[j]? = some c → RepA (zF cx ι s) (zZ cx ι s) ι w c (xs.getD j undef) ∧ c.noid d = true) :
    Models cx (fun j => if j = d then .pointer (some ⟨w.heap.size, 0, none⟩) else ι j) ((s.delOb d).setOb d (.box cs)) a (w.alloc (.cells xs t)) := by
  refine hm.change d d _ _ (.inl hd) (fun b hb => .inl ?_) rfl rfl rfl (by simp) (fun b hb _ => RowKit.Below.heap_alloc _ _ _ hb) ?_
  · simp only [blk, Option.some.injEq] at hb; omega
  · intro F' Z' ι' hF hZ hι _
    refine ⟨w.heap.size, xs, t, rfl, (by show (w.heap.push _)[w.heap.size]? = _; simp), hl, fun j c hj => ?_⟩
    obtain ⟨h1, h2⟩ := h j c hj
    exact h1.mono hF hZ fun i hi => hι i hd fun e => by subst e; rw [h2] at hi; cases hi

theorem rep_cells {F Z : Nat → Prop} {c : AV} {x : Value} (h : RepA F Z ι w c x) (h1 : (c.cells.all fun e => e.one s.obj) = true) (ho : ∀ i, c = .own i → ∃ b, ι i = b ∧ b.oneCell' = true) :
    x.cells.size = c.cells.length ∧ ∀ j e, c.cells[j]? = some e → RepA F Z ι w e (x.cells.getD j undef) := by
  have one : ∀ (e : AV) (y : Value), y.cells = #[y] → e.cells = [e] → RepA F Z ι w e y → y.cells.size = e.cells.length ∧ ∀ j d, e.cells[j]? = some d → RepA F Z ι w d (y.cells.getD j undef) := by
    intro e y h1 h2 h3
    rw [h1, h2]
    refine ⟨rfl, fun j d hj => ?_⟩
    cases j with
    | zero => simp at hj; subst hj; exact h3
    | succ j => simp at hj
  cases h with
  | pt c x h =>
    refine one _ _ ?_ rfl (.pt _ _ h)
    simp only [AV.cells, List.all_cons, List.all_nil, Bool.and_true, AV.one] at h1
    cases h with
    | v x => cases x <;> simp_all [PV.one, Value.cells]
    | any => simp [PV.one] at h1
    | _ => rfl
  | pf c x h =>
    refine one _ _ ?_ rfl (.pf _ _ h)
    simp only [AV.cells, List.all_cons, List.all_nil, Bool.and_true, AV.one] at h1
    cases h with
    | v x => cases x <;> simp_all [PV.one, Value.cells]
    | any => simp [PV.one] at h1
    | _ => rfl
  | own i =>
    obtain ⟨b, hb, hb1⟩ := ho i rfl
    refine one _ _ ?_ rfl (.own i)
    rw [hb]
    cases b <;> simp_all [Value.oneCell', Value.cells]
  | adr i off b h => exact one _ _ rfl rfl (.adr i off b h)
  | elt i esz k off b n cap h => exact one _ _ rfl rfl (.elt i esz k off b n cap h)
  | ag cs xs h2 h3 => exact ⟨h2, h3⟩
  | tp cs xs h2 h3 => simp [AV.cells, AV.one] at h1
  | cl f p q fs cs h2 h3 h4 h5 => exact one _ _ rfl rfl (.cl f p q fs cs h2 h3 h4 h5)

theorem own_one (hm : Models cx ι s a w) {i : Nat} (h : (s.obj i).isSome = true) : (ι i).oneCell' = true := by
  cases ho : s.obj i with
  | none => simp [ho] at h
  | some o =>
    have := hm.obs i o ho
    cases o with
    | box cs => obtain ⟨b, c, t, h1, _⟩ := this; rw [h1]; rfl
    | row fr esz n g =>
      rcases this with ⟨h1, _⟩ | ⟨b, cap, c, t, h1, _⟩
      · rw [h1]; rfl
      · rw [h1]; rfl

theorem rep_cells' (hm : Models cx ι s a w) {c : AV} {x : Value} (h : RepA (zF cx ι s) (zZ cx ι s) ι w c x) (h1 : (c.cells.all fun e => e.one s.obj) = true) :
    x.cells.size = c.cells.length ∧ ∀ j e, c.cells[j]? = some e → RepA (zF cx ι s) (zZ cx ι s) ι w e (x.cells.getD j undef) :=
  rep_cells h h1 fun i hi => by
    subst hi
    refine ⟨_, rfl, own_one hm ?_⟩
    simpa [AV.cells, AV.one] using h1

theorem cells_noid {c : AV} {i : Nat} (h : c.noid i = true) : ∀ (j : Nat) (e : AV), c.cells[j]? = some e → e.noid i = true := by
  intro j e hj
  have hone : c.cells = [c] → e.noid i = true := by
    intro hc
    rw [hc] at hj
    cases j with
    | zero => simp at hj; exact hj ▸ h
    | succ j => simp at hj
  cases c <;> first
    | exact hone rfl
    | (simp only [AV.cells, AV.noid] at *; exact noids_get h hj)

theorem opd_noid {G : List (Nat × PV)} (h : s.noid d) (x : Operand) : (opd G s x).noid d = true := by
  cases x with
  | tmp t => exact h.1 t
  | const v => rfl
  | global g => simp only [opd]; split <;> rfl
  | func f => rfl

theorem does_box {K : AV → St → Prop} {t : TypeId} {n : Nat} {x : Operand} {ty : TypeId} (h : AOp P cx.G det St.noid s d K (.box n x)) : Does P cx s (.box t x) ty K := by
  simp only [AOp, IOp.isW, AW, St.upd] at h
  obtain ⟨hd, hn, h1, h⟩ := h
  intro ι a w hm o ho hty next Q hnx
  obtain ⟨h2, h3⟩ := rep_cells' hm (eval_rep hm x) h1
  unfold Oper.wp
  have : (execOp a.eval o).run P w = .ok (.value (.pointer (some ⟨w.heap.size, 0, none⟩))) (w.alloc (.cells (a.eval x).cells t)) := by
    simp [execOp, ho, Instr.box, newVar, newRow]
  rw [this, Oper.upon_value]
  refine hnx _ _ _ _ _ h (hm.newBox hd h2 fun j c hj => ⟨h3 j c hj, cells_noid (opd_noid hd x) j c hj⟩) ?_
  exact .adr d 0 w.heap.size (by simp)

theorem does_alloc {K : AV → St → Prop} {t : TypeId} {z : Value} {i : TypeInfo} {ty : TypeId} (hi : P.info? t = some i) (hz : i.zero = some z) (h : AOp P cx.G det St.noid s d K (.alloc z.cells.toList)) :
    Does P cx s (.alloc t) ty K := by
  simp only [AOp, IOp.isW, AW, St.upd] at h
  obtain ⟨hd, h⟩ := h
  intro ι a w hm o ho hty next Q hnx
  unfold Oper.wp
  have : (execOp a.eval o).run P w = .ok (.value (.pointer (some ⟨w.heap.size, 0, none⟩))) (w.alloc (.cells z.cells t)) := by
    simp [execOp, ho, Instr.alloc, newVar, newRow, zeroValue, typeInfo, hi, hz]
  rw [this, Oper.upon_value]
  refine hnx _ _ _ _ _ h (hm.newBox hd (by simp) fun j c hj => ?_) ?_
  · simp only [List.getElem?_map, Option.map_eq_some_iff, Array.getElem?_toList] at hj
    obtain ⟨v, hv, rfl⟩ := hj
    refine ⟨?_, rfl⟩
    have : z.cells.getD j undef = v := by simp [Array.getD_eq_getD_getElem?, hv]
    rw [this]
    exact rep_mkv _
  · exact .adr d 0 w.heap.size (by simp)
end

/-! ### From the program's code to operations with their types resolved -/
structure IOpr where
  d : Option Nat
  g : Option (Nat × Bool)
  op : IOp

def szOf (P : Program) (t : TypeId) : Option Nat := (P.info? t).map (·.size)

def compBuiltin (P : Program) (b : Builtin) (args : List Operand) (ts : List TypeId) : Option IOp :=
  match b with
  | .len => match args, ts with
    | [x], [t] => match P.underlying t with
      | some (.slice _) => some (.len x)
      | some .string => some (.lenS x)
      | _ => none
    | _, _ => none
  | _ => none

def compCall (P : Program) (c : Call) : Option IOp :=
  match c.callee with
  | .builtin b => compBuiltin P b c.args.toList c.argTypes.toList
  | .value (.func f) => some (.call f c.args.toList)
  | .value x => some (.callv x c.args.toList)
  | .invoke _ _ => none

def compOp (P : Program) : Op → Option IOp
  | .move x => some (.mov x)
  | .assign x => some (.mov x)
  | .pick c a b => some (.pick c a b)
  | .binOp op t x y _ => match P.underlying t with
    | some (.int _) => some (.bin op x y)
    | some .string => some (.bin op x y)
    | some .bool => some (.binB op x y)
    | _ => none
  | .unOp op _ x => some (.un op x)
  | .box t x => (szOf P t).map fun n => .box n x
  | .alloc t => match P.info? t with
    | some i => i.zero.map fun z => .alloc z.cells.toList
    | none => none
  | .load t x => match P.underlying t, szOf P t with
    | some d, some n => some (.load (aggD d) n x)
    | _, _ => none
  | .fieldAddr t x i => match P.underlying t with
    | some (.struct fs) => match fs[i]? with
      | some f => match szOf P f.type with
        | some (n + 1) => some (.fadr f.offset x)
        | _ => none
      | none => none
    | _ => none
  | .indexAddr t x i => match P.underlying t with
    | some (.slice e) => (szOf P e).map fun n => .idx n x i
    | _ => none
  | .extract x i => some (.ext x i)
  | .makeFunc fn fs cs => match fn with
    | .func f => some (.mkFn f fs.toList cs.toList)
    | _ => none
  | .call c => compCall P c
  | _ => none

theorem compBuiltin_does {P : Program} {cx : Cx} {s : St} {b : Builtin} {args : Array Operand} {ts : Array TypeId} {io : IOp} {ty : TypeId} {d : Nat} {det : Bool} {K : AV → St → Prop}
    (hc : compBuiltin P b args.toList ts.toList = some io) (h : AOp P cx.G det St.noid s d K io) : Does P cx s (.call { callee := .builtin b, args := args, argTypes := ts }) ty K := by
  unfold compBuiltin at hc
  split at hc
  · split at hc
    · rename_i x t h1 h2
      obtain rfl : args = #[x] := by rw [← Array.toList_inj]; exact h1
      obtain rfl : ts = #[t] := by rw [← Array.toList_inj]; exact h2
      split at hc
      · rename_i e ht; cases hc; exact does_len ht h
      · rename_i ht; cases hc; exact does_lenS ht h
      · cases hc
    · cases hc
  · cases hc

theorem compCall_does {P : Program} {cx : Cx} {s : St} {c : Call} {io : IOp} {ty : TypeId} {d : Nat} {det : Bool} {K : AV → St → Prop} (hc : compCall P c = some io) (h : AOp P cx.G det St.noid s d K io) : Does P cx s (.call c) ty K := by
  obtain ⟨callee, args, ts⟩ := c
  unfold compCall at hc
  split at hc
  · rename_i b hb; simp only at hb; subst hb; exact compBuiltin_does hc h
  · rename_i f hb; simp only at hb; subst hb; cases hc; exact does_call h
  · rename_i x _ hb; simp only at hb; subst hb; cases hc; exact does_callv h
  · cases hc

theorem compOp_does {P : Program} {cx : Cx} {s : St} {op : Op} {io : IOp} {ty : TypeId} {d : Nat} {det : Bool} {K : AV → St → Prop} (hc : compOp P op = some io) (h : AOp P cx.G det St.noid s d K io) : Does P cx s op ty K := by
  cases op <;> simp only [compOp] at hc
  case move => cases hc; exact does_mov h
  case assign => cases hc; exact does_assign h
  case pick => cases hc; exact does_pick h
  case binOp =>
    split at hc
    · cases hc; exact does_bin h
    · cases hc; exact does_bin h
    · rename_i ht; cases hc; exact does_binB ht h
    · cases hc
  case unOp => cases hc; exact does_un h
  case box =>
    simp only [Option.map_eq_some_iff] at hc
    obtain ⟨n, hn, rfl⟩ := hc
    exact does_box h
  case alloc =>
    split at hc
    · rename_i i hi
      simp only [Option.map_eq_some_iff] at hc
      obtain ⟨z, hz, rfl⟩ := hc
      exact does_alloc hi hz h
    · cases hc
  case load =>
    split at hc
    · rename_i td n ht hn
      cases hc
      exact does_load ht hn h
    · cases hc
  case fieldAddr =>
    split at hc
    · rename_i fs ht
      split at hc
      · rename_i f hf
        split at hc
        · rename_i n hn
          cases hc
          exact does_fadr ht hf hn (by omega) h
        · cases hc
      · cases hc
    · cases hc
  case indexAddr =>
    split at hc
    · rename_i e ht
      simp only [Option.map_eq_some_iff] at hc
      obtain ⟨n, hn, rfl⟩ := hc
      exact does_idx ht hn h
    · cases hc
  case extract => cases hc; exact does_ext h
  case makeFunc =>
    split at hc
    · cases hc; exact does_mkFn h
    · cases hc
  case call => exact compCall_does hc h
  all_goals cases hc

theorem AOp.noid {P : Program} {G : List (Nat × PV)} {det : Bool} {s : St} {d : Nat} {K : AV → St → Prop} {op : IOp} (h : AOp P G det nB s d K op) : AOp P G det St.noid s d K op := by
  unfold AOp at *
  split
  · rename_i hw
    simp only [hw] at h
    cases op <;> simp only [AW] at h ⊢
    all_goals first
      | exact ⟨St.noid_of h.1, h.2⟩
      | exact h
  · rename_i hw
    simp only [hw] at h
    exact h

def dstOk (n : Nat) : Option Nat → Bool
  | some t => decide (t < n)
  | none => true

def asB : Value → Option Bool
  | .bool b => some b
  | _ => none

def compOper (P : Program) (n : Nat) (ops : Array Oper) (o : Oper) : Option IOpr :=
  match compOp P o.op with
  | none => none
  | some io =>
    if dstOk n o.dst then
      match o.guard with
      | none => some ⟨o.dst, none, io⟩
      | some (j, want) => match (ops[j]?).bind (·.dst) with
        | some t => some ⟨o.dst, some (t, want), io⟩
        | none => none
    else none

/-- The operations of a region, one after the other. -/
def AOps (P : Program) (G : List (Nat × PV)) : List IOpr → St → (St → Prop) → Prop
  | [], s, K => K s
  | o :: r, s, K => match o.g with
    | none => AOp P G false nB s (o.d.getD 0) (fun c s' => AOps P G r (s'.putD o.d c) K) o.op
    | some (t, want) => match s.get t with
      | .p _ (.v (.bool b)) =>
        (b = want → AOp P G false nB (s.put t (.p true (.v (.bool want)))) (o.d.getD 0) (fun c s' => AOps P G r (s'.putD o.d c) K) o.op) ∧
        (b = !want → AOps P G r ((s.put t (.p true (.v (.bool !want)))).putD o.d (.p true (.v undef))) K)
      | .p _ (.v (.tuple _)) => AOps P G r (s.putD o.d (.p true (.v undef))) K
      | _ => False

theorem Models.redesc {cx : Cx} {ι : Nat → Value} {s : St} {a : Act} {w : World} (hm : Models cx ι s a w) {t : Nat} {c : AV} (h : RepA (zF cx ι s) (zZ cx ι s) ι w c (a.tmps.getD t undef)) :
    Models cx ι (s.put t c) a w where
  defers := hm.defers
  size := hm.size
  env := fun u => by
    rw [St.get_put]
    by_cases hu : t = u
    · subst hu; rw [if_pos rfl]; exact h
    · rw [if_neg hu]; exact hm.env u
  obs := hm.obs
  dj := hm.dj
  new := hm.new
  ext := hm.ext
  gl := hm.gl

theorem yielded_of {ops : Array Oper} {tmps : Array Value} {j t : Nat} (h : (ops[j]?).bind (·.dst) = some t) {v : Value} (hv : tmps.getD t undef = v) :
    yielded ops tmps j = asB v := by
  unfold yielded
  rw [h]
  simp only [Option.bind_some]
  rw [Array.getD_eq_getD_getElem?] at hv
  cases ht : tmps[t]? with
  | none => simp [ht] at hv; subst hv; rfl
  | some x => simp [ht] at hv; subst hv; cases x <;> rfl

theorem wpOps_of {P : Program} {cx : Cx} {ops : Array Oper} {Q : Exit → Act → World → Prop} {K : St → Prop}
    (hK : ∀ ι s a w, K s → Models cx ι s a w → Q .normal a w) :
    ∀ (l : List Oper) (il : List IOpr) (k : Nat), (∀ j, l[j]? = ops[k + j]?) → l.mapM (compOper P cx.n ops) = some il →
      ∀ ι s a w, AOps P cx.G il s K → Models cx ι s a w → wpOps P ops Q (List.range' k l.length) a w := by
  intro l
  induction l with
  | nil =>
    intro il k hl hc ι s a w h hm
    simp at hc
    subst hc
    exact hK ι s a w h hm
  | cons o r ih =>
    intro il k hl hc ι s a w h hm
    have h0 : ops[k]? = some o := by simpa using (hl 0).symm
    have hr : ∀ j, r[j]? = ops[k + 1 + j]? := fun j => by have := hl (j + 1); simpa [Nat.add_assoc, Nat.add_comm 1 j] using this
    simp only [List.mapM_cons, Option.bind_eq_bind, Option.bind_eq_some_iff, Option.pure_def, Option.some.injEq] at hc
    obtain ⟨io, hio, il', hil', rfl⟩ := hc
    simp only [List.length_cons, List.range'_succ, wpOps, h0]
    unfold compOper at hio
    split at hio
    · cases hio
    · rename_i p hp
      split at hio
      · rename_i hd
        have hdst : ∀ t, o.dst = some t → t < cx.n := fun t ht => by rw [ht] at hd; simpa [dstOk] using hd
        have step : ∀ (s : St) (d : Nat), Models cx ι s a w → AOp P cx.G false nB s d (fun c s' => AOps P cx.G il' (s'.putD o.dst c) K) p →
            o.wp P a w (wpOps P ops Q (List.range' (k + 1) r.length)) Q := fun s d hm h =>
          compOp_does (ty := o.type) hp (AOp.noid h) ι a w hm o rfl rfl _ _ fun ι' c s' v w' hk hm' hrep => ih il' (k + 1) hr hil' ι' _ _ w' hk (hm'.putD hrep hdst)
        split at hio
        · rename_i hg
          cases hio
          have hw : Region.wanted o (yielded ops a.tmps) = true := by simp [Region.wanted, hg]
          rw [if_pos hw]
          exact .inl (step s _ hm h)
        · rename_i j want hg
          split at hio
          · rename_i t ht
            cases hio
            simp only [AOps] at h
            have henv := hm.env t
            split at h
            · rename_i fr b hb
              rw [hb] at henv
              have hv := rep_v henv
              have hy := yielded_of ht hv
              by_cases hbw : b = want
              · subst hbw
                have hw : Region.wanted o (yielded ops a.tmps) = true := by simp [Region.wanted, hg, hy, asB]
                rw [if_pos hw]
                exact .inl (step _ _ (hm.redesc (by rw [hv]; exact rep_mkv _)) (h.1 rfl))
              · have hb' : b = !want := by cases b <;> cases want <;> simp_all
                subst hb'
                have hw : Region.wanted o (yielded ops a.tmps) = false := by simp [Region.wanted, hg, hy, asB]
                rw [if_neg (by simp [hw])]
                exact ih il' (k + 1) hr hil' ι _ _ w (h.2 rfl) ((hm.redesc (by rw [hv]; exact rep_mkv _)).putD (rep_mkv _) hdst)
            · rename_i fr vs hb
              rw [hb] at henv
              have hv := rep_v henv
              have hy := yielded_of ht hv
              have hw : Region.wanted o (yielded ops a.tmps) = false := by simp [Region.wanted, hg, hy, asB]
              rw [if_neg (by simp [hw])]
              exact ih il' (k + 1) hr hil' ι _ _ w h (hm.putD (rep_mkv _) hdst)
            · exact h.elim
          · cases hio
      · cases hio

end Go.Fw
