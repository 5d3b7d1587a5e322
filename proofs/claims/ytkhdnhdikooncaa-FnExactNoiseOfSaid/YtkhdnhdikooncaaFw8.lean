/- A function's contract out of the walk of its body; with no condition. -/
import Derived.Test.YtkhdnhdikooncaaFw7
namespace Go.Fw
open Go
set_option linter.unusedVariables false
set_option linter.unusedSimpArgs false

inductive RI where
  | tmp (t : Nat)
  | cell (agg : Bool) (n t : Nat)

def resI (P : Program) : ResultVar → Option RI
  | .tmp t => some (.tmp t)
  | .cell a t => match P.underlying t, szOf P t with
    | some d, some n => some (.cell (aggD d) n a)
    | _, _ => none

def resAV (s : St) : RI → Option AV
  | .tmp t => some (s.get t)
  | .cell agg n a => match s.get a with
    | .adr i 0 => match s.obj i with
      | some (.box cs) => if n ≤ cs.length then (if agg then some (.ag (cs.take n)) else if n = 1 then some (cs.getD 0 default) else none) else none
      | _ => none
    | _ => none

def tup : List AV → AV
  | [c] => c
  | cs => .tp cs

mutual
/-- Rows that nobody writes any more are pure. -/
def AV.frz (s : St) : AV → AV
  | .p fr c => .p fr c
  | .own i => match s.obj i with
    | some (.row fr esz n g) => .p fr (.sl false esz n g)
    | _ => .own i
  | .adr i o => .adr i o
  | .elt i a b c => .elt i a b c
  | .ag cs => .ag (AV.frzs s cs)
  | .tp cs => .tp (AV.frzs s cs)
  | .cl f a b => .cl f (AV.frzs s a) (AV.frzs s b)
def AV.frzs (s : St) : List AV → List AV
  | [] => []
  | c :: cs => AV.frz s c :: AV.frzs s cs
end

mutual
theorem frz_le (s : St) : ∀ (c : AV), AvLe s id (fun _ => false) (fun _ => False) c (c.frz s)
  | .p fr c => .p fr c
  | .own i => by
    simp only [AV.frz]
    split
    · rename_i fr esz n g h; exact .frz i fr esz n g _ h (fun h => h) (.refl _)
    · exact .own i rfl
  | .adr i o => .adr i o rfl
  | .elt i a b c => .elt i a b c rfl
  | .ag cs => by
    simp only [AV.frz]
    exact .ag cs _ (frzs_le s cs).1 (frzs_le s cs).2
  | .tp cs => by
    simp only [AV.frz]
    exact .tp cs _ (frzs_le s cs).1 (frzs_le s cs).2
  | .cl f a b => by
    simp only [AV.frz]
    exact .cl f a _ b _ (frzs_le s a).1 (frzs_le s b).1 (frzs_le s a).2 (frzs_le s b).2
theorem frzs_le (s : St) : ∀ (cs : List AV), cs.length = (AV.frzs s cs).length ∧ ∀ (j : Nat) (c d : AV), cs[j]? = some c → (AV.frzs s cs)[j]? = some d → AvLe s id (fun _ => false) (fun _ => False) c d
  | [] => ⟨rfl, fun j c d h => by simp at h⟩
  | c :: cs => by
    obtain ⟨h1, h2⟩ := frzs_le s cs
    refine ⟨by simp [AV.frzs, h1], fun j a b ha hb => ?_⟩
    cases j with
    | zero =>
      simp only [AV.frzs, List.getElem?_cons_zero, Option.some.injEq] at ha hb
      subst ha
      subst hb
      exact frz_le s c
    | succ j => exact h2 j a b (by simpa using ha) (by simpa [AV.frzs] using hb)
end

/-- What is returned. -/
def resOf (rl : List RI) (s : St) : Option AV :=
  match rl.mapM (resAV s) with
  | some cs => some ((tup cs).frz s)
  | none => none

/-- The same value, cell by cell. -/
inductive AV.Le : AV → AV → Prop
  | p (fr c d) (h : PV.Le c d) : AV.Le (.p fr c) (.p fr d)
  | old (fr c d) (h : PV.Le c d) : AV.Le (.p fr c) (.p false d)
  | sc (fr fr' x) : AV.Le (.p fr (.v x)) (.p fr' (.v x))
  | ag (cs ds : List AV) (hl : cs.length = ds.length) (h : ∀ (j : Nat) (c d : AV), cs[j]? = some c → ds[j]? = some d → AV.Le c d) : AV.Le (.ag cs) (.ag ds)
  | tp (cs ds : List AV) (hl : cs.length = ds.length) (h : ∀ (j : Nat) (c d : AV), cs[j]? = some c → ds[j]? = some d → AV.Le c d) : AV.Le (.tp cs) (.tp ds)
  | refl (c) : AV.Le c c

theorem RepA.le {F Z : Nat → Prop} (hFZ : ∀ b, F b → Z b) {ι : Nat → Value} {w : World} {c d : AV} (h : AV.Le c d) : ∀ {x : Value}, RepA F Z ι w c x → RepA F Z ι w d x := by
  induction h with
  | p fr c d h =>
    intro x hx
    cases hx with
    | pt _ _ hx => exact .pt _ _ (hx.le h)
    | pf _ _ hx => exact .pf _ _ (hx.le h)
  | old fr c d h =>
    intro x hx
    cases hx with
    | pt _ _ hx => exact .pf _ _ ((hx.le h).mono fun b hb _ => ⟨rfl, hFZ b hb⟩)
    | pf _ _ hx => exact .pf _ _ (hx.le h)
  | sc fr fr' y =>
    intro x hx
    have : x = y := by cases hx with
      | pt _ _ hx => cases hx; rfl
      | pf _ _ hx => cases hx; rfl
    subst this
    cases fr'
    · exact .pf _ _ (.v _)
    · exact .pt _ _ (.v _)
  | ag cs ds hl h ih =>
    intro x hx
    cases hx with
    | ag _ xs h1 h2 =>
      refine .ag ds xs (h1.trans hl) fun j d hj => ?_
      have hlt : j < cs.length := by rw [hl]; exact (List.getElem?_eq_some_iff.1 hj).1
      exact ih j _ d (List.getElem?_eq_getElem hlt) hj (h2 j _ (List.getElem?_eq_getElem hlt))
  | tp cs ds hl h ih =>
    intro x hx
    cases hx with
    | tp _ xs h1 h2 =>
      refine .tp ds xs (h1.trans hl) fun j d hj => ?_
      have hlt : j < cs.length := by rw [hl]; exact (List.getElem?_eq_some_iff.1 hj).1
      exact ih j _ d (List.getElem?_eq_getElem hlt) hj (h2 j _ (List.getElem?_eq_getElem hlt))
  | refl c => exact fun h => h

def ResOk (rl : List RI) (s : St) (R : AV → Prop) : Prop :=
  match resOf rl s with
  | some c => c.closed = true ∧ ∃ d, d.closed = true ∧ AV.Le c d ∧ R d
  | none => False

section
variable {P : Program} {cx : Cx} {ι : Nat → Value} {s : St} {a : Act} {w : World}

def runRes (tmps : Array Value) : ResultVar → Sem Value
  | .tmp t => pure (tmps.getD t undef)
  | .cell a t => do loadVar t (← asAddr (tmps.getD a undef))

theorem run_result (hm : Models cx ι s a w) {rv : ResultVar} {ri : RI} (h : resI P rv = some ri) {c : AV} (hc : resAV s ri = some c) :
    ∃ v, (runRes a.tmps rv).run P w = .ok v w ∧ RepA (zF cx ι s) (zZ cx ι s) ι w c v := by
  cases rv with
  | tmp t =>
    cases h
    cases hc
    exact ⟨_, rfl, hm.env t⟩
  | cell t ty =>
    simp only [resI] at h
    split at h
    · rename_i td n ht hn
      cases h
      simp only [resAV] at hc
      have he := hm.env t
      split at hc
      · rename_i i hi
        split at hc
        · rename_i cs ho
          rw [hi] at he
          generalize hx : a.tmps.getD t undef = x at he
          cases he with
          | adr _ _ b hb =>
            obtain ⟨b', xs, tt, h4, h5, h6, h7⟩ := hm.obs i _ ho
            rw [hb] at h4
            simp only [Value.pointer.injEq, Option.some.injEq, Addr.mk.injEq] at h4
            obtain ⟨rfl, _⟩ := h4
            split at hc
            · rename_i hle
              have hcl : ∀ j, j < n → w.cell? ⟨b, 0 + j, none⟩ = some (xs.getD j undef) := fun j hj => by rw [Nat.zero_add]; exact cell_of_row h5 (by omega)
              have hrun : ∀ v, (loadVar ty ⟨b, 0, none⟩).run P w = .ok v w → (runRes a.tmps (.cell t ty)).run P w = .ok v w := by
                intro v hv
                simp [runRes, hx, asAddr, hv]
              cases hd : aggD td with
              | true =>
                simp only [hd, if_true, Option.some.injEq] at hc
                subst hc
                have hv := run_loadVar ht hn (fun j => xs.getD j undef) hcl (fun e => by simp [hd] at e)
                simp only [hd, if_true] at hv
                refine ⟨_, hrun _ hv, .ag _ _ (by simp; omega) fun j e hj => ?_⟩
                rw [List.getElem?_take] at hj
                split at hj
                · rename_i hjn
                  rw [getD_range_map _ _ _ hjn]
                  exact h7 _ e hj
                · cases hj
              | false =>
                simp only [hd, Bool.false_eq_true, if_false] at hc
                split at hc
                · rename_i h1
                  subst h1
                  simp only [Option.some.injEq] at hc
                  subst hc
                  have hv := run_loadVar ht hn (fun j => xs.getD j undef) hcl (fun e => by omega)
                  simp only [hd, Bool.false_eq_true, if_false] at hv
                  refine ⟨_, hrun _ hv, h7 0 _ ?_⟩
                  simp [List.getD, List.getElem?_eq_getElem (show 0 < cs.length by omega)]
                · cases hc
            · cases hc
        · cases hc
      · cases hc
    · cases h

theorem run_mapM (f : ResultVar → Sem Value) (hf : ∀ rv, f rv = runRes a.tmps rv) (hm : Models cx ι s a w) : ∀ (rs : List ResultVar) (rl : List RI) (cs : List AV), rs.mapM (resI P) = some rl → rl.mapM (resAV s) = some cs →
    ∃ vs : List Value, (rs.mapM f).run P w = .ok vs w ∧ vs.length = cs.length ∧ ∀ j c, cs[j]? = some c → RepA (zF cx ι s) (zZ cx ι s) ι w c (vs.getD j undef)
  | [], rl, cs, h, hc => by
    simp at h
    subst h
    simp at hc
    subst hc
    exact ⟨[], by simp, rfl, fun j c h => by simp at h⟩
  | r :: rs, rl, cs, h, hc => by
    simp only [List.mapM_cons, Option.bind_eq_bind, Option.bind_eq_some_iff, Option.pure_def, Option.some.injEq] at h
    obtain ⟨ri, h1, rl', h2, rfl⟩ := h
    simp only [List.mapM_cons, Option.bind_eq_bind, Option.bind_eq_some_iff, Option.pure_def, Option.some.injEq] at hc
    obtain ⟨c, h3, cs', h4, rfl⟩ := hc
    obtain ⟨v, hv, hr⟩ := run_result hm h1 h3
    obtain ⟨vs, hvs, hl, hrs⟩ := run_mapM f hf hm rs rl' cs' h2 h4
    refine ⟨v :: vs, by simp [List.mapM_cons, hf, hv, hvs], by simp [hl], fun j c hj => ?_⟩
    cases j with
    | zero => simp at hj; subst hj; simpa using hr
    | succ j => simpa using hrs j c (by simpa using hj)

theorem run_results (hm : Models cx ι s a w) {fn : Func} {rl : List RI} {cs : List AV} (h : fn.results.toList.mapM (resI P) = some rl) (hc : rl.mapM (resAV s) = some cs) :
    ∃ v, (results fn a.tmps).run P w = .ok v w ∧ RepA (zF cx ι s) (zZ cx ι s) ι w (tup cs) v := by
  have key : ∀ (f : ResultVar → Sem Value), (∀ rv, f rv = runRes a.tmps rv) → ∃ vs : List Value, (fn.results.mapM f).run P w = .ok vs.toArray w ∧ vs.length = cs.length ∧ ∀ j c, cs[j]? = some c → RepA (zF cx ι s) (zZ cx ι s) ι w c (vs.getD j undef) := by
    intro f hf
    obtain ⟨vs, h1, h2⟩ := run_mapM f hf hm _ _ _ h hc
    refine ⟨vs, ?_, h2⟩
    rw [Array.mapM_eq_mapM_toList, Sem.run_map, h1]
    rfl
  have e : results fn a.tmps = (do let vs ← fn.results.mapM (runRes a.tmps); pure (if h : vs.size = 1 then vs[0] else .tuple vs)) := by
    unfold results
    congr 2
  rw [e, Sem.run_bind]
  obtain ⟨vs, h1, h2, h3⟩ := key _ (fun _ => rfl)
  rw [h1, Result.andThen_ok]
  match vs, cs, h2, h3 with
  | [v], [c], _, h3 => exact ⟨v, rfl, by simpa [tup] using h3 0 c rfl⟩
  | [], [], _, h3 => exact ⟨.tuple #[], rfl, .tp [] _ rfl fun j c h => by simp at h⟩
  | v1 :: v2 :: vs, c1 :: c2 :: cs, hl, h3 =>
    refine ⟨.tuple (v1 :: v2 :: vs).toArray, by simp, .tp _ _ (by simpa using hl) fun j c hj => ?_⟩
    have := h3 j c hj
    simpa [Array.getD_eq_getD_getElem?, List.getD] using this
end

def argEnv : Nat → List AV → List (Nat × AV)
  | _, [] => []
  | k, c :: cs => (k, c) :: argEnv (k + 1) cs

theorem look_argEnv : ∀ (cs : List AV) (k t : Nat), look (argEnv k cs) t = if t < k then none else cs[t - k]?
  | [], k, t => by simp [argEnv, look]
  | c :: cs, k, t => by
    simp only [argEnv, look]
    rw [look_argEnv cs (k + 1) t]
    by_cases h : k = t
    · subst h; simp
    · by_cases h2 : t < k
      · simp [h, h2]; omega
      · have : t - k = (t - (k + 1)) + 1 := by omega
        rw [if_neg h, if_neg h2, if_neg (by omega), this, List.getElem?_cons_succ]

def Post (rl : List RI) (R : AV → Prop) : Exit → St → Prop
  | .normal, s => ResOk rl s R
  | .ret, s => ResOk rl s R
  | _, _ => False

theorem PCall.of {P : Program} {G : List (Nat × PV)} {f : FuncId} {fn : Func} {code : Code} {args : List AV} {R : AV → Prop} {drop : List Nat → List Nat} {ir : Ir} {rl : List RI}
    (hf : P.funcs[f]? = some fn) (hname : (fn.name == "runtime.NumGoroutine") = false) (hb : fn.body = some code) (hc : comp P fn.ntmps drop code = some ir)
    (hr : fn.results.toList.mapM (resI P) = some rl) (hn : args.length ≤ fn.ntmps)
    (h : SWI P G ir ⟨argEnv 0 args, []⟩ (Post rl R)) : PCall P G f args R := by
  refine ⟨⟨fn, hf, by simp [hb], hname⟩, fun w Z0 vs hl ha hg => ?_⟩
  let cx : Cx := { w0 := w, Z0 := Z0, D0 := fun _ => False, n := fn.ntmps, G := G }
  have hin : ∀ ι b, ¬ inH ι (⟨argEnv 0 args, []⟩ : St) b := fun ι b ⟨i, o, h1, _⟩ => by simp [St.obj, look] at h1
  have hm : Models cx (fun _ => undef) ⟨argEnv 0 args, []⟩ { tmps := vs ++ Array.replicate (fn.ntmps - vs.size) undef, defers := [] } w := by
    refine ⟨rfl, by simp [cx]; omega, fun t => ?_, fun i o h => by simp [St.obj, look] at h, fun i o j o' b h => by simp [St.obj, look] at h, fun b h => (hin _ b h).elim, Ext.refl _ _, fun g c h => ?_⟩
    · simp only [St.get, look_argEnv, Nat.not_lt_zero, if_false, Nat.sub_zero]
      cases hj : args[t]? with
      | none => exact .pf _ _ (.any _)
      | some c =>
        have hlt : t < vs.size := by rw [hl]; exact (List.getElem?_eq_some_iff.1 hj).1
        have : (vs ++ Array.replicate (fn.ntmps - vs.size) undef).getD t undef = vs.getD t undef := by
          rw [getD_append, if_pos hlt]
        show RepA _ _ _ _ c ((vs ++ Array.replicate (fn.ntmps - vs.size) undef).getD t undef)
        rw [this]
        exact (ha t c hj _).mono (fun b hb _ => hb.elim) (fun b hb _ => ⟨rfl, .inl hb, hin _ b⟩) (fun _ _ => rfl)
    · exact (hg g c h).mono fun b hb _ => ⟨rfl, .inl hb, hin _ b⟩
  refine calls_of_wp hf hb (wp_mono (swi_sound (cx := cx) code ir hc _ _ h _ _ w hm) ?_)
  rintro e a' w' ⟨ι', s', hm', hq⟩
  have fin : ResOk rl s' R → a'.defers = [] ∧ ∃ v, (results fn a'.tmps).run P w' = .ok v w' ∧ (∃ x r, Ending.returned v = .returned x ∧ R r ∧
      (∀ ι, RepA (fun b => w.heap.size ≤ b) (fun b => Z0 b ∨ w.heap.size ≤ b) ι w' r x) ∧ Grows w w') := by
    intro hres
    refine ⟨hm'.defers, ?_⟩
    unfold ResOk at hres
    split at hres
    · rename_i c hc
      unfold resOf at hc
      split at hc
      · rename_i cs hcs
        cases hc
        obtain ⟨hcl, r, hcl', hle, hR⟩ := hres
        obtain ⟨v, hv, hrep⟩ := run_results hm' hr hcs
        refine ⟨v, hv, v, r, rfl, hR, fun ι => ?_, hm'.ext⟩
        have := AvLe.rep hm' (s' := ⟨[], []⟩) (ρ := id) (nw := fun _ => false) (fun j o h => by simp [St.obj, look] at h) _ ((tup cs).frz s') ?_ v hrep
        · have this := RepA.le (fun b hb => ⟨.inr hb.1, hb.2⟩) hle this
          refine this.mono (fun b hb _ => ⟨rfl, ?_⟩) (fun b hb _ => ⟨rfl, ?_⟩) (fun i hi => ?_)
          · rcases hb.1 with h | h
            · exact h.elim
            · exact h
          · rcases hb.1 with h | h | h
            · exact .inl h
            · exact h.elim
            · exact .inr h
          · rw [closed_noid hcl'] at hi; cases hi
        · have hk : keptBy id (fun _ => false) (⟨[], []⟩ : St) = fun _ => False := by
            funext i
            simp [keptBy, St.obj, look]
          rw [hk]
          exact frz_le s' _
      · cases hc
    · exact hres.elim
  cases e with
  | normal => exact fin hq
  | ret => exact fin hq
  | _ => exact hq.elim

/-- For the frame of a statement. -/
theorem PCall.calls {P : Program} {G : List (Nat × PV)} {f : FuncId} {args : List AV} {v : Value} (h : PCall P G f args (fun r => r = .p true (.v v))) {w : World} {vs : Array Value} (hl : vs.size = args.length)
    (ha : ∀ j c, args[j]? = some c → ∀ ι, RepA (fun _ => False) (fun _ => True) ι w c (vs.getD j undef))
    (hg : ∀ g c, look G g = some c → RepP (fun _ => True) w c (.pointer (some ⟨g, 0, none⟩))) :
    Calls P f vs w fun e w' => e = .returned v ∧ RowKit.Below w.heap.size w w' := by
  refine (h.2 w (fun _ => True) vs hl ha hg).mono ?_
  rintro e w' ⟨x, r, rfl, rfl, hr, hgr⟩
  exact ⟨by rw [rep_v (hr fun _ => undef)], hgr.os, hgr.tape, hgr.output, hgr.size, fun b hb => hgr.same hb⟩
end Go.Fw
