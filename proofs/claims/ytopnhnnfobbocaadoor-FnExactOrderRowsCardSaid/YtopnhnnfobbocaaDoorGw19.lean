/- Operations of a region, one after the other; with no condition. -/
import Derived.Test.YtopnhnnfobbocaaDoorGw18
namespace Go.Gw
open Go
set_option linter.unusedVariables false
set_option linter.unusedSimpArgs false

structure IOpr where
  d : Option Nat
  g : Option (Nat × Bool)
  op : IOp

def noidL (e : List (Nat × AV)) (i : Nat) : Bool := match e with
  | [] => true
  | x :: r => match x.2.noid i with
    | true => noidL r i
    | false => false
def noidH (e : List (Nat × Ob)) (i : Nat) : Bool := match e with
  | [] => true
  | x :: r => match x.2.noid i with
    | true => noidH r i
    | false => false
def St.noidB (s : St) (i : Nat) : Bool := match noidL s.env i with
  | true => match noidH s.H i with
    | true => Nat.blt i hbs
    | false => false
  | false => false

theorem noidL_spec {i : Nat} : ∀ {e : List (Nat × AV)}, noidL e i = true → ∀ x, x ∈ e → x.2.noid i = true
  | y :: r, h, x, hx => by
    simp only [noidL] at h
    split at h
    · rename_i hy
      rcases List.mem_cons.1 hx with rfl | hx
      · exact hy
      · exact noidL_spec h x hx
    · cases h

theorem noidH_spec {i : Nat} : ∀ {e : List (Nat × Ob)}, noidH e i = true → ∀ x, x ∈ e → x.2.noid i = true
  | y :: r, h, x, hx => by
    simp only [noidH] at h
    split at h
    · rename_i hy
      rcases List.mem_cons.1 hx with rfl | hx
      · exact hy
      · exact noidH_spec h x hx
    · cases h

theorem St.noid_of {s : St} {i : Nat} (h : s.noidB i = true) : s.noid i := by
  unfold St.noidB at h
  split at h
  · rename_i h1
    split at h
    · rename_i h2
      refine ⟨?_, ?_, by simpa [Nat.blt_eq] using h⟩
      · intro t
        unfold St.get
        cases hl : look s.env t with
        | none => rfl
        | some c => exact noidL_spec h1 _ (look_mem hl)
      · intro j o ho
        exact noidH_spec h2 _ (look_mem ho)
    · cases h
  · cases h

def freshB (s : St) : List Nat → Bool
  | [] => true
  | e :: l => match s.noidB e with
    | true => freshB s l
    | false => false

theorem freshB_spec {s : St} : ∀ {l : List Nat}, freshB s l = true → ∀ e, e ∈ l → s.noid e
  | x :: l, h, e, he => by
    simp only [freshB] at h
    split at h
    · rename_i hx
      rcases List.mem_cons.1 he with rfl | he
      · exact St.noid_of hx
      · exact freshB_spec h e he
    · cases h

/-- An operation, in a state. -/
def AOp (P : Program) (G : List (Nat × PV)) (det : Bool) (s : St) (d : Nat) (K : AV → Upd → Prop) (op : IOp) : Prop :=
  freshB s (op.fresh d) = true ∧ (res s.obj d (op.opds.map (opd G s)) op).holds P G s.obj d det K

def dstOk (n : Nat) : Option Nat → Bool
  | some t => decide (t < n)
  | none => true

def asB : Value → Option Bool
  | .bool b => some b
  | _ => none

def compOper (P : Program) (n : Nat) (ops : Array Oper) (o : Oper) : Option IOpr :=
    if dstOk n o.dst then
      match o.guard with
      | none => some ⟨o.dst, none, compOp P o.op⟩
      | some (j, want) => match (ops[j]?).bind (·.dst) with
        | some t => some ⟨o.dst, some (t, want), compOp P o.op⟩
        | none => none
    else none

/-- The operations of a region, one after the other. -/
def AOps (P : Program) (G : List (Nat × PV)) : List IOpr → St → (St → Prop) → Prop
  | [], s, K => K s
  | o :: r, s, K => match o.g with
    | none => AOp P G false s (o.d.getD 0) (fun c u => AOps P G r ((s.upd u).putD o.d c) K) o.op
    | some (t, want) => match s.get t with
      | .p _ (.v (.bool b)) =>
        (b = want → AOp P G false (s.put t (.p true (.v (.bool want)))) (o.d.getD 0) (fun c u => AOps P G r (((s.put t (.p true (.v (.bool want)))).upd u).putD o.d c) K) o.op) ∧
        (b = !want → AOps P G r ((s.put t (.p true (.v (.bool !want)))).putD o.d (.p true (.v undef))) K)
      | .p _ (.v (.tuple _)) => AOps P G r (s.putD o.d (.p true (.v undef))) K
      | _ => False

theorem yielded_of {ops : Array Oper} {tmps : Array Value} {j t : Nat} (h : (ops[j]?).bind (·.dst) = some t) {v : Value} (hv : tmps.getD t undef = v) :
    yielded ops tmps j = asB v := by
  unfold yielded
  rw [h]
  simp only [Option.bind_some]
  rw [Array.getD_eq_getD_getElem?] at hv
  cases ht : tmps[t]? with
  | none => simp [ht] at hv; subst hv; rfl
  | some x => simp [ht] at hv; subst hv; cases x <;> rfl

theorem wpOps_of {P : Program} {cx : Cx} {ops : Array Oper} {Q : Exit → Act → World → Prop} {K : St → Prop}
    (hK : ∀ ι ow s a w, K s → Models cx ι ow s a w → Q .normal a w) :
    ∀ (l : List Oper) (il : List IOpr) (k : Nat), (∀ j, l[j]? = ops[k + j]?) → l.mapM (compOper P cx.n ops) = some il →
      ∀ ι ow s a w, AOps P cx.G il s K → Models cx ι ow s a w → wpOps P ops Q (List.range' k l.length) a w := by
  intro l
  induction l with
  | nil =>
    intro il k hl hc ι ow s a w h hm
    simp at hc
    subst hc
    exact hK ι ow s a w h hm
  | cons o r ih =>
    intro il k hl hc ι ow s a w h hm
    have h0 : ops[k]? = some o := by simpa using (hl 0).symm
    have hr : ∀ j, r[j]? = ops[k + 1 + j]? := fun j => by have := hl (j + 1); simpa [Nat.add_assoc, Nat.add_comm 1 j] using this
    simp only [List.mapM_cons, Option.bind_eq_bind, Option.bind_eq_some_iff, Option.pure_def, Option.some.injEq] at hc
    obtain ⟨io, hio, il', hil', rfl⟩ := hc
    simp only [List.length_cons, List.range'_succ, wpOps, h0]
    unfold compOper at hio
    split at hio
    · rename_i hd
      have hdst : ∀ t, o.dst = some t → t < cx.n := fun t ht => by rw [ht] at hd; simpa [dstOk] using hd
      have step : ∀ (s : St), Models cx ι ow s a w → AOp P cx.G false s (o.dst.getD 0) (fun c u => AOps P cx.G il' ((s.upd u).putD o.dst c) K) (compOp P o.op) →
          o.wp P a w (wpOps P ops Q (List.range' (k + 1) r.length)) Q := fun s hm h =>
        sound_comp o.op false ι ow s a w (o.dst.getD 0) _ hm h.2 (freshB_spec h.1) o rfl _ _ fun ι' ow' c u v w' hk hm' hrep => ih il' (k + 1) hr hil' ι' ow' _ _ w' hk (hm'.putD hrep hdst)
      split at hio
      · rename_i hg
        cases hio
        have hw : Region.wanted o (yielded ops a.tmps) = true := by simp [Region.wanted, hg]
        rw [if_pos hw]
        exact .inl (step s hm h)
      · rename_i j want hg
        split at hio
        · rename_i t ht
          cases hio
          simp only [AOps] at h
          have henv := hm.env t
          split at h
          · rename_i fr b hb
            rw [hb] at henv
            have hv := rep_v henv
            have hy := yielded_of ht hv
            by_cases hbw : b = want
            · subst hbw
              have hw : Region.wanted o (yielded ops a.tmps) = true := by simp [Region.wanted, hg, hy, asB]
              rw [if_pos hw]
              exact .inl (step _ (hm.redesc (by rw [hv]; exact rep_mkv _)) (h.1 rfl))
            · have hb' : b = !want := by cases b <;> cases want <;> simp_all
              subst hb'
              have hw : Region.wanted o (yielded ops a.tmps) = false := by simp [Region.wanted, hg, hy, asB]
              rw [if_neg (by simp [hw])]
              exact ih il' (k + 1) hr hil' ι ow _ _ w (h.2 rfl) ((hm.redesc (by rw [hv]; exact rep_mkv _)).putD (rep_mkv _) hdst)
          · rename_i fr vs hb
            rw [hb] at henv
            have hv := rep_v henv
            have hy := yielded_of ht hv
            have hw : Region.wanted o (yielded ops a.tmps) = false := by simp [Region.wanted, hg, hy, asB]
            rw [if_neg (by simp [hw])]
            exact ih il' (k + 1) hr hil' ι ow _ _ w h (hm.putD (rep_mkv _) hdst)
          · exact h.elim
        · cases hio
    · cases hio
end Go.Gw
