/- A function's contract out of the walk of its body; with no condition. -/
import Derived.Test.YtopnhnnfobbocaaDoorGw23
namespace Go.Gw
open Go
set_option linter.unusedVariables false
set_option linter.unusedSimpArgs false

inductive RI where
  | tmp (t : Nat)
  | cell (agg : Bool) (n t : Nat)

def resI (P : Program) : ResultVar → Option RI
  | .tmp t => some (.tmp t)
  | .cell a t => match P.underlying t, szOf P t with
    | some d, some n => some (.cell (aggD d) n a)
    | _, _ => none

def resAV (s : St) : RI → Option AV
  | .tmp t => some (s.get t)
  | .cell agg n a => match s.get a with
    | .adr i 0 => match s.obj i with
      | some (.box cs) => if n ≤ cs.length then (if agg then some (.ag (cs.take n)) else if n = 1 then some (cs.getD 0 default) else none) else none
      | _ => none
    | _ => none

def tup : List AV → AV
  | [c] => c
  | cs => .tp cs

/-- What is returned. -/
def resOf (rl : List RI) (s : St) : Option AV :=
  match rl.mapM (resAV s) with
  | some cs => some (tup cs)
  | none => none

/-- In a state, a value and objects are described by r and H' (H0: the objects that were handed over). -/
def Wr (H0 : List (Nat × Ob)) (s : St) (c : AV) (r : AV) (H' : List (Nat × Ob)) : Prop :=
  ∀ (cx : Cx) (ι : Nat → Value) (ow : Nat → Option Nat) (a : Act) (w : World) (x : Value), Models cx ι ow s a w → RepA (zF cx ow) (zZ cx ow) ι w c x →
    ∃ ι' ow', RepA (zF cx ow') (zZ cx ow') ι' w r x ∧ (∀ i o, look H' i = some o → ObOk (zF cx ow') (zZ cx ow') (fun b => ow' b = some i) ι' w (ι' i) o) ∧
      (∀ b i, ow' b = some i → (look H' i).isSome = true ∧ (cx.D0 b ∨ cx.w0.heap.size ≤ b)) ∧
      (∀ i, (look H0 i).isSome = true → (look H' i).isSome = true → ι' i = cx.ι0 (i + hbs))

theorem Wr.of {H0 : List (Nat × Ob)} {s : St} {c r : AV} {H' : List (Nat × Ob)} {ρ : Nat → Nat} {nw : Nat → Bool} (hv : AvLe s ρ nw (keptBy ρ nw H') c r) (ho : ObsLe s H' ρ nw)
    (hp : ∀ i, (look H0 i).isSome = true → (look H' i).isSome = true → nw i = false ∧ ρ i = i + hbs) : Wr H0 s c r H' := by
  intro cx ι ow a w x hm hx
  refine ⟨nameOf ι ρ nw, owOf ow ρ nw H', AvLe.rep hm _ _ hv x hx, fun i o h => ho.rep hm h, fun b i hb => ow_dom hm hb, fun i h1 h2 => ?_⟩
  obtain ⟨h3, h4⟩ := hp i h1 h2
  have := hm.kp (i + hbs) (Nat.le_add_left _ _)
  simp [nameOf, h3, h4, this]

def ResOk (rl : List RI) (H0 : List (Nat × Ob)) (s : St) (R : AV → List (Nat × Ob) → Prop) : Prop :=
  ∃ s' c, Wk s s' ∧ resOf rl s' = some c ∧ ∃ r H', Wr H0 s' c r H' ∧ R r H'

section
variable {P : Program} {cx : Cx} {ι : Nat → Value} {ow : Nat → Option Nat} {s : St} {a : Act} {w : World}

def runRes (tmps : Array Value) : ResultVar → Sem Value
  | .tmp t => pure (tmps.getD t undef)
  | .cell a t => do loadVar t (← asAddr (tmps.getD a undef))

theorem run_result (hm : Models cx ι ow s a w) {rv : ResultVar} {ri : RI} (h : resI P rv = some ri) {c : AV} (hc : resAV s ri = some c) :
    ∃ v, (runRes a.tmps rv).run P w = .ok v w ∧ RepA (zF cx ow) (zZ cx ow) ι w c v := by
  cases rv with
  | tmp t =>
    cases h
    cases hc
    exact ⟨_, rfl, hm.env t⟩
  | cell t ty =>
    simp only [resI] at h
    split at h
    · rename_i td n ht hn
      cases h
      simp only [resAV] at hc
      have he := hm.env t
      split at hc
      · rename_i i hi
        split at hc
        · rename_i cs ho
          rw [hi] at he
          generalize hx : a.tmps.getD t undef = x at he
          cases he with
          | adr _ _ b hb =>
            obtain ⟨b', xs, tt, h4, h4', h5, h6, h7⟩ := hm.obs i _ ho
            rw [hb] at h4
            simp only [Value.pointer.injEq, Option.some.injEq, Addr.mk.injEq] at h4
            obtain ⟨rfl, _⟩ := h4
            split at hc
            · rename_i hle
              have hcl : ∀ j, j < n → w.cell? ⟨b, 0 + j, none⟩ = some (xs.getD j undef) := fun j hj => by rw [Nat.zero_add]; exact cell_of_row h5 (by omega)
              have hrun : ∀ v, (loadVar ty ⟨b, 0, none⟩).run P w = .ok v w → (runRes a.tmps (.cell t ty)).run P w = .ok v w := by
                intro v hv
                simp [runRes, hx, asAddr, hv]
              cases hd : aggD td with
              | true =>
                simp only [hd, if_true, Option.some.injEq] at hc
                subst hc
                have hv := run_loadVar ht hn (fun j => xs.getD j undef) hcl (fun e => by simp [hd] at e)
                simp only [hd, if_true] at hv
                refine ⟨_, hrun _ hv, .ag _ _ (by simp; omega) fun j e hj => ?_⟩
                rw [List.getElem?_take] at hj
                split at hj
                · rename_i hjn
                  rw [getD_range_map _ _ _ hjn]
                  exact h7 _ e hj
                · cases hj
              | false =>
                simp only [hd, Bool.false_eq_true, if_false] at hc
                split at hc
                · rename_i h1
                  subst h1
                  simp only [Option.some.injEq] at hc
                  subst hc
                  have hv := run_loadVar ht hn (fun j => xs.getD j undef) hcl (fun e => by omega)
                  simp only [hd, Bool.false_eq_true, if_false] at hv
                  refine ⟨_, hrun _ hv, h7 0 _ ?_⟩
                  simp [List.getD, List.getElem?_eq_getElem (show 0 < cs.length by omega)]
                · cases hc
            · cases hc
        · cases hc
      · cases hc
    · cases h

theorem run_mapM (f : ResultVar → Sem Value) (hf : ∀ rv, f rv = runRes a.tmps rv) (hm : Models cx ι ow s a w) : ∀ (rs : List ResultVar) (rl : List RI) (cs : List AV), rs.mapM (resI P) = some rl → rl.mapM (resAV s) = some cs →
    ∃ vs : List Value, (rs.mapM f).run P w = .ok vs w ∧ vs.length = cs.length ∧ ∀ j c, cs[j]? = some c → RepA (zF cx ow) (zZ cx ow) ι w c (vs.getD j undef)
  | [], rl, cs, h, hc => by
    simp at h
    subst h
    simp at hc
    subst hc
    exact ⟨[], by simp, rfl, fun j c h => by simp at h⟩
  | r :: rs, rl, cs, h, hc => by
    simp only [List.mapM_cons, Option.bind_eq_bind, Option.bind_eq_some_iff, Option.pure_def, Option.some.injEq] at h
    obtain ⟨ri, h1, rl', h2, rfl⟩ := h
    simp only [List.mapM_cons, Option.bind_eq_bind, Option.bind_eq_some_iff, Option.pure_def, Option.some.injEq] at hc
    obtain ⟨c, h3, cs', h4, rfl⟩ := hc
    obtain ⟨v, hv, hr⟩ := run_result hm h1 h3
    obtain ⟨vs, hvs, hl, hrs⟩ := run_mapM f hf hm rs rl' cs' h2 h4
    refine ⟨v :: vs, by simp [List.mapM_cons, hf, hv, hvs], by simp [hl], fun j c hj => ?_⟩
    cases j with
    | zero => simp at hj; subst hj; simpa using hr
    | succ j => simpa using hrs j c (by simpa using hj)

theorem run_results (hm : Models cx ι ow s a w) {fn : Func} {rl : List RI} {cs : List AV} (h : fn.results.toList.mapM (resI P) = some rl) (hc : rl.mapM (resAV s) = some cs) :
    ∃ v, (results fn a.tmps).run P w = .ok v w ∧ RepA (zF cx ow) (zZ cx ow) ι w (tup cs) v := by
  have key : ∀ (f : ResultVar → Sem Value), (∀ rv, f rv = runRes a.tmps rv) → ∃ vs : List Value, (fn.results.mapM f).run P w = .ok vs.toArray w ∧ vs.length = cs.length ∧ ∀ j c, cs[j]? = some c → RepA (zF cx ow) (zZ cx ow) ι w c (vs.getD j undef) := by
    intro f hf
    obtain ⟨vs, h1, h2⟩ := run_mapM f hf hm _ _ _ h hc
    refine ⟨vs, ?_, h2⟩
    rw [Array.mapM_eq_mapM_toList, Sem.run_map, h1]
    rfl
  have e : results fn a.tmps = (do let vs ← fn.results.mapM (runRes a.tmps); pure (if h : vs.size = 1 then vs[0] else .tuple vs)) := by
    unfold results
    congr 2
  rw [e, Sem.run_bind]
  obtain ⟨vs, h1, h2, h3⟩ := key _ (fun _ => rfl)
  rw [h1, Result.andThen_ok]
  match vs, cs, h2, h3 with
  | [v], [c], _, h3 => exact ⟨v, rfl, by simpa [tup] using h3 0 c rfl⟩
  | [], [], _, h3 => exact ⟨.tuple #[], rfl, .tp [] _ rfl fun j c h => by simp at h⟩
  | v1 :: v2 :: vs, c1 :: c2 :: cs, hl, h3 =>
    refine ⟨.tuple (v1 :: v2 :: vs).toArray, by simp, .tp _ _ (by simpa using hl) fun j c hj => ?_⟩
    have := h3 j c hj
    simpa [Array.getD_eq_getD_getElem?, List.getD] using this
end

def argEnv : Nat → List AV → List (Nat × AV)
  | _, [] => []
  | k, c :: cs => (k, c) :: argEnv (k + 1) cs

theorem look_argEnv : ∀ (cs : List AV) (k t : Nat), look (argEnv k cs) t = if t < k then none else cs[t - k]?
  | [], k, t => by simp [argEnv, look]
  | c :: cs, k, t => by
    simp only [argEnv, look]
    rw [look_argEnv cs (k + 1) t]
    by_cases h : k = t
    · subst h; simp
    · by_cases h2 : t < k
      · simp [h, h2]; omega
      · have : t - k = (t - (k + 1)) + 1 := by omega
        rw [if_neg h, if_neg h2, if_neg (by omega), this, List.getElem?_cons_succ]

def Post (rl : List RI) (H0 : List (Nat × Ob)) (R : AV → List (Nat × Ob) → Prop) : Exit → St → Prop
  | .normal, s => ResOk rl H0 s R
  | .ret, s => ResOk rl H0 s R
  | _, _ => False

def up (k : Nat) : Nat := k + hbs

def upH : List (Nat × Ob) → List (Nat × Ob)
  | [] => []
  | (k, o) :: r => (up k, o.ren up) :: upH r

/-- A function's first state. -/
def start (args : List AV) (H : List (Nat × Ob)) : St := ⟨argEnv 0 (AV.rens up args), upH H⟩

def noHoles : List (Nat × Ob) → Bool
  | [] => true
  | (_, .row _ _ _ _ _ hl) :: r => match hl with
    | [] => noHoles r
    | _ => false
  | (_, .box _) :: r => noHoles r
  | (_, .map _ _) :: r => noHoles r

theorem look_upH : ∀ {H : List (Nat × Ob)} {i : Nat} {o : Ob}, look (upH H) i = some o → ∃ k o', i = up k ∧ look H k = some o' ∧ o = o'.ren up
  | (k, o') :: r, i, o, h => by
    simp only [upH, look] at h
    split at h
    · rename_i e; cases h; exact ⟨k, o', e.symm, by simp [look], rfl⟩
    · rename_i e
      obtain ⟨k', o2, rfl, h2, rfl⟩ := look_upH h
      refine ⟨k', o2, rfl, ?_, rfl⟩
      simp only [look]
      rw [if_neg (fun h => e (by rw [h]))]
      exact h2

theorem look_upH_some : ∀ {H : List (Nat × Ob)} {k : Nat}, (look H k).isSome = true → (look (upH H) (up k)).isSome = true
  | (k', o') :: r, k, h => by
    simp only [upH, look] at h ⊢
    split
    · rfl
    · rename_i e
      rw [if_neg (fun h => e (by rw [h]))] at h
      exact look_upH_some h

theorem noHoles_spec : ∀ {H : List (Nat × Ob)} {k : Nat} {m : Mode} {nn : Bool} {e n : Nat} {g : Nat → Nat → PV} {hl : List (Nat × Nat × Nat)}, noHoles H = true → look H k = some (.row m nn e n g hl) → hl = []
  | (k', o) :: r, k, m, nn, e, n, g, hl, h, hk => by
    simp only [look] at hk
    split at hk
    · cases hk
      simp only [noHoles] at h
      split at h
      · rfl
      · cases h
    · cases o <;> simp only [noHoles] at h
      · exact noHoles_spec h hk
      · split at h
        · exact noHoles_spec h hk
        · cases h
      · exact noHoles_spec h hk

theorem PCall.of {P : Program} {G : List (Nat × PV)} {f : FuncId} {fn : Func} {code : Code} {args : List AV} {H : List (Nat × Ob)} {R : AV → List (Nat × Ob) → Prop} {drop : List Nat → List Nat} {ir : Ir} {rl : List RI}
    (hf : P.funcs[f]? = some fn) (hname : (fn.name == "runtime.NumGoroutine") = false) (hb : fn.body = some code) (hc : comp P fn.ntmps drop code = some ir)
    (hr : fn.results.toList.mapM (resI P) = some rl) (hn : args.length ≤ fn.ntmps) (hh : noHoles H = true)
    (h : ∃ s', Wk (start args H) s' ∧ SWI P G ir s' (Post rl H R)) : PCall P G f args H R := by
  refine ⟨⟨fn, hf, by simp [hb], hname⟩, fun w Z0 ι ow vs hl hdom hz hob ha hg => ?_⟩
  let cx : Cx := { w0 := w, Z0 := Z0, D0 := fun b => ∃ i, ow b = some i, n := fn.ntmps, G := G, ι0 := fun i => ι (i - hbs) }
  let ow0 : Nat → Option Nat := fun b => (ow b).map up
  let ι1 : Nat → Value := fun i => ι (i - hbs)
  have hι : ∀ k, ι1 (up k) = ι k := fun k => by simp [ι1, up]
  have hZ : ∀ b, Z0 b → zZ cx ow0 b := fun b hb => ⟨by simp [ow0, hz b hb], .inl hb⟩
  have hm : Models cx ι1 ow0 (start args H) { tmps := vs ++ Array.replicate (fn.ntmps - vs.size) undef, defers := [] } w := by
    refine ⟨rfl, by simp [cx]; omega, fun t => ?_, fun i o h => ?_, fun b i h => ?_, Ext.refl _ _, fun g c h => ?_, fun i hi => rfl⟩
    · simp only [start, St.get, look_argEnv, Nat.not_lt_zero, if_false, Nat.sub_zero, rens_get]
      cases hj : args[t]? with
      | none => exact .pf _ _ (.any _)
      | some c =>
        have hlt : t < vs.size := by rw [hl]; exact (List.getElem?_eq_some_iff.1 hj).1
        have : (vs ++ Array.replicate (fn.ntmps - vs.size) undef).getD t undef = vs.getD t undef := by
          rw [getD_append, if_pos hlt]
        show RepA _ _ _ _ (c.ren up) ((vs ++ Array.replicate (fn.ntmps - vs.size) undef).getD t undef)
        rw [this]
        exact (ha t c hj).ren (fun b hb _ => hb.elim) (fun b hb _ => hZ b hb) (fun k _ => hι k)
    · obtain ⟨k, o', rfl, hk, rfl⟩ := look_upH (H := H) h
      have h1 := hob k o' hk
      rw [hι k]
      have hS : ∀ b, ow b = some k → ow0 b = some (up k) := fun b hb => by simp [ow0, hb]
      cases o' with
      | box cs =>
        obtain ⟨b, c, t, e1, e2, e3, e4, e5⟩ := h1
        refine ⟨b, c, t, e1, hS b e2, e3, by rw [rens_length]; exact e4, fun j cc hj => ?_⟩
        rw [rens_get, Option.map_eq_some_iff] at hj
        obtain ⟨c', hj, rfl⟩ := hj
        exact (e5 j c' hj).ren (fun b hb _ => hb.elim) (fun b hb _ => hZ b hb) (fun k' _ => hι k')
      | row m nn esz n g hl' =>
        have := noHoles_spec hh hk
        subst this
        rcases h1 with e0 | ⟨b, cap, c, t, q, e1, e2, e3, e4, e5, eq, e6⟩
        · exact .inl e0
        · refine .inr ⟨b, cap, c, t, q, e1, hS b e2, e3, e4, e5, eq, fun p r hp hr => ?_⟩
          have e7 := e6 p r hp hr
          cases m <;> simp only [EltOk] at e7 ⊢
          · exact e7.mono fun b hb _ => ⟨rfl, hZ b hb⟩
          · exact e7.mono fun b hb _ => hb.elim
          · simp only [hole] at e7 ⊢
            exact e7.mono fun b hb _ => ⟨rfl, hS b hb.1, hb.2⟩
      | map f n =>
        obtain ⟨b, es, ck, e1, e2, e3⟩ := h1
        exact ⟨b, es, ck, e1, hS b e2, e3⟩
    · simp only [ow0, Option.map_eq_some_iff] at h
      obtain ⟨k, h1, rfl⟩ := h
      exact ⟨look_upH_some (hdom b k h1), .inl ⟨k, h1⟩⟩
    · exact (hg g c h).mono fun b hb _ => ⟨rfl, hZ b hb⟩
  obtain ⟨s1, hw1, h⟩ := h
  obtain ⟨ι4, ow4, hm4⟩ := hw1 cx _ _ _ w hm
  refine calls_of_wp hf hb (wp_mono (swi_sound (cx := cx) code ir hc _ _ h _ _ _ w hm4) ?_)
  rintro e a' w' ⟨ι', ow', s', hm', hq⟩
  have fin : ResOk rl H s' R → a'.defers = [] ∧ ∃ v, (results fn a'.tmps).run P w' = .ok v w' ∧ (∃ (x : Value) (r : AV) (H' : List (Nat × Ob)) (ι' : Nat → Value) (ow' : Nat → Option Nat), Ending.returned v = .returned x ∧ R r H' ∧
      (∀ i, (look H i).isSome = true → (look H' i).isSome = true → ι' i = ι i) ∧
      RepA (fun b => ow' b = none ∧ ((∃ i, ow b = some i) ∨ w.heap.size ≤ b)) (fun b => ow' b = none ∧ (Z0 b ∨ (∃ i, ow b = some i) ∨ w.heap.size ≤ b)) ι' w' r x ∧
      (∀ i o, look H' i = some o → ObOk (fun b => ow' b = none ∧ ((∃ i, ow b = some i) ∨ w.heap.size ≤ b)) (fun b => ow' b = none ∧ (Z0 b ∨ (∃ i, ow b = some i) ∨ w.heap.size ≤ b)) (fun b => ow' b = some i) ι' w' (ι' i) o) ∧
      (∀ b i, ow' b = some i → (look H' i).isSome = true ∧ ((∃ k, ow b = some k) ∨ w.heap.size ≤ b)) ∧ Ext (fun b => ∃ i, ow b = some i) w w') := by
    intro hres
    refine ⟨hm'.defers, ?_⟩
    obtain ⟨s2, c, hwk, hc, r, H', hwr, hR⟩ := hres
    obtain ⟨ι2, ow2, hm2⟩ := hwk cx ι' ow' a' w' hm'
    unfold resOf at hc
    split at hc
    · rename_i cs hcs
      cases hc
      obtain ⟨v, hv, hrep⟩ := run_results hm2 hr hcs
      obtain ⟨ι3, ow3, h1, h2, h3, h4⟩ := hwr cx ι2 ow2 a' w' v hm2 hrep
      exact ⟨v, hv, v, r, H', ι3, ow3, rfl, hR, fun i h5 h6 => by rw [h4 i h5 h6]; exact hι i, h1, h2, h3, hm2.ext⟩
    · cases hc
  cases e with
  | normal => exact fin hq
  | ret => exact fin hq
  | _ => exact hq.elim

/-- For the frame of a statement. -/
theorem PCall.calls {P : Program} {G : List (Nat × PV)} {f : FuncId} {args : List AV} {v : Value} (h : PCall P G f args [] (fun r H => r = .p true (.v v) ∧ H = [])) {w : World} {vs : Array Value} (hl : vs.size = args.length)
    (ha : ∀ j c, args[j]? = some c → RepA (fun _ => False) (fun _ => True) (fun _ => undef) w c (vs.getD j undef))
    (hg : ∀ g c, look G g = some c → RepP (fun _ => True) w c (.pointer (some ⟨g, 0, none⟩))) :
    Calls P f vs w fun e w' => e = .returned v ∧ RowKit.Below w.heap.size w w' := by
  refine (h.2 w (fun _ => True) (fun _ => undef) (fun _ => none) vs hl (fun b i h => by cases h) (fun _ _ => rfl) (fun i o h => by simp [look] at h) ha hg).mono ?_
  rintro e w' ⟨x, r, H', ι', ow', rfl, ⟨rfl, rfl⟩, _, hr, _, _, hgr⟩
  exact ⟨by rw [rep_v hr], hgr.os, hgr.tape, hgr.output, hgr.size, fun b hb => hgr.block b hb (fun ⟨i, h⟩ => by cases h)⟩
end Go.Gw
