/- A call by its contract holds in all worlds that a state describes; with no condition. -/
import Derived.Test.YtigaelckdbeecaaGreatDoorGw3
namespace Go.Gw
open Go
set_option linter.unusedVariables false
set_option linter.unusedSimpArgs false
section
variable {cx : Cx} {ι : Nat → Value} {ow : Nat → Option Nat} {s : St} {a : Act} {w : World}
theorem pvw_rep (hm : Models cx ι ow s a w) {ps : List Nat} {Z' : Nat → Prop} (hZ : ∀ b, zZ cx ow b → Z' b) : ∀ (f : Nat),
    (∀ {c : AV} {x : Value} {pv : PV}, RepA (zF cx ow) (zZ cx ow) ι w c x → AV.pvw s.obj ps f c = some pv → ((∃ i, i ∈ c.ids ∧ i ∉ ps) → ∀ b i, ow b = some i → i ∉ ps → Z' b) → RepP Z' w pv x) ∧
    (∀ {cs : List AV} {l : List PV} {xs : Array Value}, (∀ j c, cs[j]? = some c → RepA (zF cx ow) (zZ cx ow) ι w c (xs.getD j undef)) → AV.pvws s.obj ps f cs = some l →
      ((∃ i, i ∈ AV.idss cs ∧ i ∉ ps) → ∀ b i, ow b = some i → i ∉ ps → Z' b) → l.length = cs.length ∧ ∀ j c, l[j]? = some c → RepP Z' w c (xs.getD j undef)) := by
  have hP : ∀ {fr : Bool} {c : PV} {x : Value}, RepA (zF cx ow) (zZ cx ow) ι w (.p fr c) x → RepP Z' w c x := fun {fr c x} h => by
    rw [rep_p] at h
    refine h.mono fun b hb _ => ⟨rfl, hZ b ?_⟩
    cases fr
    · exact hb
    · exact zFZ hb
  have hOwn : ∀ (f : Nat) {i : Nat} {pv : PV}, AV.pvw s.obj ps f (.own i) = some pv → (∀ b i, ow b = some i → i ∉ ps → Z' b) → RepP Z' w pv (ι i) := by
    intro f i pv h hl
    cases f <;>
    · simp only [AV.pvw, pvwStep] at h
      split at h
      · cases h
      · rename_i hps
        split at h
        · rename_i m nn e n g ho
          cases h
          refine (hm.obs i _ ho).frozen (fun b hb _ => ?_) (fun b hb _ => hl b i hb (by simpa using hps))
          cases m with
          | z => exact hZ b hb
          | f => exact hZ b (zFZ hb)
          | u => exact hb.elim
        · cases h
  have hL : ∀ (f : Nat), (∀ {c : AV} {x : Value} {pv : PV}, RepA (zF cx ow) (zZ cx ow) ι w c x → AV.pvw s.obj ps f c = some pv → ((∃ i, i ∈ c.ids ∧ i ∉ ps) → ∀ b i, ow b = some i → i ∉ ps → Z' b) → RepP Z' w pv x) →
      ∀ {cs : List AV} {l : List PV} {xs : Array Value}, (∀ j c, cs[j]? = some c → RepA (zF cx ow) (zZ cx ow) ι w c (xs.getD j undef)) → AV.pvws s.obj ps f cs = some l →
      ((∃ i, i ∈ AV.idss cs ∧ i ∉ ps) → ∀ b i, ow b = some i → i ∉ ps → Z' b) → l.length = cs.length ∧ ∀ j c, l[j]? = some c → RepP Z' w c (xs.getD j undef) := by
    intro f h1 cs
    induction cs with
    | nil => intro l xs _ h _; simp only [AV.pvws, mapO, Option.some.injEq] at h; subst h; exact ⟨rfl, fun j c h => by simp at h⟩
    | cons c cs ih =>
      intro l xs hr h hl
      simp only [AV.pvws, mapO] at h
      split at h
      · rename_i x y hx hy
        cases h
        have h2 := ih (xs := xs.extract 1 xs.size) (l := y) (fun j e hj => by
          have := hr (j + 1) e (by simpa using hj)
          rwa [show (xs.extract 1 xs.size).getD j undef = xs.getD (j + 1) undef by
            simp only [Array.getD_eq_getD_getElem?, Array.getElem?_extract]
            split
            · rw [Nat.add_comm]
            · rename_i hj'; rw [Array.getElem?_eq_none (by omega)]]) hy (fun ⟨i, h1, h2⟩ => hl ⟨i, by simp [AV.idss, h1], h2⟩)
        refine ⟨by simp [h2.1], fun j e hj => ?_⟩
        cases j with
        | zero =>
          simp at hj
          subst hj
          exact h1 (hr 0 c rfl) hx (fun ⟨i, h1, h2⟩ => hl ⟨i, by simp [AV.idss, h1], h2⟩)
        | succ j =>
          have := h2.2 j e (by simpa using hj)
          rwa [show (xs.extract 1 xs.size).getD j undef = xs.getD (j + 1) undef by
            simp only [Array.getD_eq_getD_getElem?, Array.getElem?_extract]
            split
            · rw [Nat.add_comm]
            · rename_i hj'; rw [Array.getElem?_eq_none (by omega)]] at this
      · cases h
  intro f
  induction f with
  | zero =>
    have h1 : ∀ {c : AV} {x : Value} {pv : PV}, RepA (zF cx ow) (zZ cx ow) ι w c x → AV.pvw s.obj ps 0 c = some pv → ((∃ i, i ∈ c.ids ∧ i ∉ ps) → ∀ b i, ow b = some i → i ∉ ps → Z' b) → RepP Z' w pv x := by
      intro c x pv hr h hl
      cases c with
      | p fr c => simp only [AV.pvw, pvwStep, Option.some.injEq] at h; subst h; exact hP hr
      | own i =>
        cases hr
        by_cases hps : i ∈ ps
        · simp [AV.pvw, pvwStep, hps] at h
        · exact hOwn 0 h (hl ⟨i, by simp [AV.ids], hps⟩)
      | _ => simp [AV.pvw, pvwStep] at h
    exact ⟨h1, hL 0 h1⟩
  | succ f ih =>
    have h1 : ∀ {c : AV} {x : Value} {pv : PV}, RepA (zF cx ow) (zZ cx ow) ι w c x → AV.pvw s.obj ps (f + 1) c = some pv → ((∃ i, i ∈ c.ids ∧ i ∉ ps) → ∀ b i, ow b = some i → i ∉ ps → Z' b) → RepP Z' w pv x := by
      intro c x pv hr h hl
      cases c with
      | p fr c => simp only [AV.pvw, pvwStep, Option.some.injEq] at h; subst h; exact hP hr
      | own i =>
        cases hr
        by_cases hps : i ∈ ps
        · simp [AV.pvw, pvwStep, hps] at h
        · exact hOwn (f + 1) h (hl ⟨i, by simp [AV.ids], hps⟩)
      | adr i o =>
        simp only [AV.pvw, pvwStep] at h
        split at h
        · cases h
        · rename_i hps
          have hps : i ∉ ps := by simpa using hps
          have hl' := hl ⟨i, by simp [AV.ids], hps⟩
          split at h
          · rename_i cs ho
            split at h
            · rename_i l hpv
              cases h
              cases hr with
              | adr _ _ b hb =>
                obtain ⟨b', xs, t, h4, h0, h5, h6, h7⟩ := hm.obs i _ ho
                rw [hb] at h4
                simp only [Value.pointer.injEq, Option.some.injEq, Addr.mk.injEq] at h4
                obtain ⟨rfl, _⟩ := h4
                obtain ⟨h8, h9⟩ := ih.2 (fun j c hj => h7 j c hj) hpv (fun _ => hl')
                refine .pp _ _ b o (fun j => xs.getD (o + j) undef) (fun j hj => cell_of_row h5 (by omega)) (fun j hj => ?_) (fun j hj => hl' b i h0 hps)
                have := h9 (o + j) (l[o + j]'(by omega)) (List.getElem?_eq_getElem (by omega))
                simpa [List.getD, List.getElem?_eq_getElem (show o + j < l.length by omega)] using this
            · cases h
          · cases h
      | cl g p q =>
        simp only [AV.pvw, pvwStep] at h
        split at h
        · rename_i x' y' hx hy
          cases h
          cases hr with
          | cl _ _ _ fs cs h2 h3 h4 h5 =>
            obtain ⟨k1, k2⟩ := ih.2 h4 hx (fun ⟨i, h1, h2⟩ => hl ⟨i, by simp [AV.ids, h1], h2⟩)
            obtain ⟨k3, k4⟩ := ih.2 h5 hy (fun ⟨i, h1, h2⟩ => hl ⟨i, by simp [AV.ids, h1], h2⟩)
            exact .cl _ _ _ fs cs (h2.trans k1.symm) (h3.trans k3.symm) k2 k4
        · cases h
      | _ => simp [AV.pvw, pvwStep] at h
    exact ⟨h1, hL (f + 1) h1⟩
mutual
theorem arg_rep (hm : Models cx ι ow s a w) {ps : List Nat} {Z' : Nat → Prop} {ιc : Nat → Value} (hZ : ∀ b, zZ cx ow b → Z' b) (hι : ∀ k i, ps[k]? = some i → ιc k = ι i) :
    ∀ {c c' : AV} {x : Value}, RepA (zF cx ow) (zZ cx ow) ι w c x → AV.arg s.obj ps c = some c' → ((∃ i, i ∈ c.ids ∧ i ∉ ps) → ∀ b i, ow b = some i → i ∉ ps → Z' b) → RepA (fun _ => False) Z' ιc w c' x
  | .p fr c, c', x, hr, h, hl => by
    have hP : RepP Z' w c x := by
      rw [rep_p] at hr
      refine hr.mono fun b hb _ => ⟨rfl, hZ b ?_⟩
      cases fr
      · exact hb
      · exact zFZ hb
    simp only [AV.arg] at h
    split at h
    · cases h; cases hP; exact rep_mkv _
    · cases h; exact .pf _ _ hP
  | .own i, c', x, hr, h, hl => by
    simp only [AV.arg] at h
    split at h
    · rename_i k hk
      cases h
      cases hr
      rw [← hι k i (idxOf_get hk)]
      exact .own k
    · rename_i hk
      simp only [Option.map_eq_some_iff] at h
      obtain ⟨pv, hpv, rfl⟩ := h
      exact .pf _ _ ((pvw_rep hm hZ 4).1 hr hpv hl)
  | .adr i o, c', x, hr, h, hl => by
    simp only [AV.arg] at h
    split at h
    · rename_i k hk
      cases h
      cases hr with
      | adr _ _ b hb => exact .adr k o b ((hι k i (idxOf_get hk)).trans hb)
    · simp only [Option.map_eq_some_iff] at h
      obtain ⟨pv, hpv, rfl⟩ := h
      exact .pf _ _ ((pvw_rep hm hZ 4).1 hr hpv hl)
  | .elt i e k o, c', x, hr, h, hl => by
    simp only [AV.arg] at h
    split at h
    · rename_i k' hk
      cases h
      cases hr with
      | elt _ _ _ _ b n cap hb => exact .elt k' e k o b n cap ((hι k' i (idxOf_get hk)).trans hb)
    · cases h
  | .vw i e k, c', x, hr, h, hl => by simp [AV.arg] at h
  | .ag cs, c', x, hr, h, hl => by
    simp only [AV.arg, Option.map_eq_some_iff] at h
    obtain ⟨ds, hd, rfl⟩ := h
    cases hr with
    | ag _ xs h1 h2 =>
      obtain ⟨h3, h4⟩ := args_rep hm hZ hι h2 hd (fun ⟨i, h1, h2⟩ => hl ⟨i, by simpa [AV.ids] using h1, h2⟩)
      exact .ag _ xs (h1.trans h3.symm) h4
  | .tp cs, c', x, hr, h, hl => by
    simp only [AV.arg, Option.map_eq_some_iff] at h
    obtain ⟨ds, hd, rfl⟩ := h
    cases hr with
    | tp _ xs h1 h2 =>
      obtain ⟨h3, h4⟩ := args_rep hm hZ hι h2 hd (fun ⟨i, h1, h2⟩ => hl ⟨i, by simpa [AV.ids] using h1, h2⟩)
      exact .tp _ xs (h1.trans h3.symm) h4
  | .cl f p q, c', x, hr, h, hl => by
    simp only [AV.arg] at h
    split at h
    · rename_i x' y' hx hy
      cases h
      cases hr with
      | cl _ _ _ fs xs h1 h2 h3 h4 =>
        obtain ⟨k1, k2⟩ := args_rep hm hZ hι h3 hx (fun ⟨i, h1, h2⟩ => hl ⟨i, by simp [AV.ids, h1], h2⟩)
        obtain ⟨k3, k4⟩ := args_rep hm hZ hι h4 hy (fun ⟨i, h1, h2⟩ => hl ⟨i, by simp [AV.ids, h1], h2⟩)
        exact .cl f _ _ fs xs (h1.trans k1.symm) (h2.trans k3.symm) k2 k4
    · cases h
theorem args_rep (hm : Models cx ι ow s a w) {ps : List Nat} {Z' : Nat → Prop} {ιc : Nat → Value} (hZ : ∀ b, zZ cx ow b → Z' b) (hι : ∀ k i, ps[k]? = some i → ιc k = ι i) :
    ∀ {cs ds : List AV} {xs : Array Value}, (∀ j c, cs[j]? = some c → RepA (zF cx ow) (zZ cx ow) ι w c (xs.getD j undef)) → AV.args s.obj ps cs = some ds →
      ((∃ i, i ∈ AV.idss cs ∧ i ∉ ps) → ∀ b i, ow b = some i → i ∉ ps → Z' b) → ds.length = cs.length ∧ ∀ j d, ds[j]? = some d → RepA (fun _ => False) Z' ιc w d (xs.getD j undef)
  | [], ds, xs, _, h, _ => by simp only [AV.args, Option.some.injEq] at h; subst h; exact ⟨rfl, fun j c h => by simp at h⟩
  | c :: cs, ds, xs, hr, h, hl => by
    simp only [AV.args] at h
    split at h
    · rename_i x y hx hy
      cases h
      have e : ∀ j, (xs.extract 1 xs.size).getD j undef = xs.getD (j + 1) undef := fun j => by
        simp only [Array.getD_eq_getD_getElem?, Array.getElem?_extract]
        split
        · rw [Nat.add_comm]
        · rename_i hj'; rw [Array.getElem?_eq_none (by omega)]
      obtain ⟨h1, h2⟩ := args_rep hm hZ hι (cs := cs) (xs := xs.extract 1 xs.size) (fun j d hj => by rw [e]; exact hr (j + 1) d (by simpa using hj)) hy (fun ⟨i, h1, h2⟩ => hl ⟨i, by simp [AV.idss, h1], h2⟩)
      refine ⟨by simp [h1], fun j d hj => ?_⟩
      cases j with
      | zero =>
        simp at hj
        subst hj
        exact arg_rep hm hZ hι (hr 0 c rfl) hx (fun ⟨i, h1, h2⟩ => hl ⟨i, by simp [AV.idss, h1], h2⟩)
      | succ j => rw [← e]; exact h2 j d (by simpa using hj)
    · cases h
end
theorem obArg_rep (hm : Models cx ι ow s a w) {ps : List Nat} {Z' : Nat → Prop} {ιc : Nat → Value} {owc : Nat → Option Nat} (hZ : ∀ b, zZ cx ow b → Z' b) (hι : ∀ k i, ps[k]? = some i → ιc k = ι i)
    {i k : Nat} (how : ∀ b, ow b = some i → owc b = some k) {o o' : Ob} (ho : s.obj i = some o) (h : Ob.arg s.obj ps o = some o')
    (hl : (∃ j cs, o = .box cs ∧ j ∈ AV.idss cs ∧ j ∉ ps) → ∀ b i, ow b = some i → i ∉ ps → Z' b) : ObOk (fun _ => False) Z' (fun b => owc b = some k) ιc w (ι i) o' := by
  have hob := hm.obs i o ho
  cases o with
  | box cs =>
    simp only [Ob.arg, Option.map_eq_some_iff] at h
    obtain ⟨ds, hd, rfl⟩ := h
    obtain ⟨b, c, t, h1, h2, h3, h4, h5⟩ := hob
    obtain ⟨h6, h7⟩ := args_rep hm hZ hι h5 hd (fun ⟨j, h1, h2⟩ => hl ⟨j, cs, rfl, h1, h2⟩)
    exact ⟨b, c, t, h1, how b h2, h3, h4.trans h6.symm, h7⟩
  | row m nn e n g hls =>
    simp only [Ob.arg] at h
    split at h
    · cases h
      rcases hob with h1 | ⟨b, cap, c, t, q, h1, h2, h3, h4, h5, hq, h6⟩
      · exact .inl h1
      · refine .inr ⟨b, cap, c, t, q, h1, how b h2, h3, h4, h5, hq, fun p r hp hr => ?_⟩
        have h7 := h6 p r hp hr
        cases m with
        | z => exact RepP.mono (fun b hb _ => ⟨rfl, hZ b hb⟩) h7
        | f => exact RepP.mono (fun b hb _ => ⟨rfl, hZ b (zFZ hb)⟩) h7
        | u =>
          simp only [EltOk, hole] at h7 ⊢
          exact h7.mono fun b hb _ => ⟨rfl, how b hb.1, hb.2⟩
    · cases h
  | map f n =>
    simp only [Ob.arg, Option.some.injEq] at h
    subst h
    obtain ⟨b, e, k', h1, h2, h3⟩ := hob
    exact ⟨b, e, k', h1, how b h2, h3⟩
theorem handed_spec {ob : Nat → Option Ob} {ps : List Nat} : ∀ {l : List Nat} {k : Nat} {H : List (Nat × Ob)}, handed ob ps k l = some H →
    (∀ j o', look H j = some o' → k ≤ j ∧ ∃ i o, l[j - k]? = some i ∧ ob i = some o ∧ Ob.arg ob ps o = some o') ∧ (∀ j i, l[j]? = some i → (look H (k + j)).isSome = true)
  | [], k, H, h => by simp only [handed, Option.some.injEq] at h; subst h; exact ⟨fun j o' h => by simp [look] at h, fun j i h => by simp at h⟩
  | i :: l, k, H, h => by
    simp only [handed] at h
    split at h
    · rename_i o ho
      split at h
      · rename_i o1 H1 h1 h2
        cases h
        obtain ⟨h3, h4⟩ := handed_spec h2
        refine ⟨fun j o' hj => ?_, fun j i' hj => ?_⟩
        · simp only [look] at hj
          split at hj
          · rename_i e
            cases hj
            subst e
            exact ⟨Nat.le_refl _, i, o, by simp, ho, h1⟩
          · obtain ⟨h5, i', o2, h6, h7⟩ := h3 j o' hj
            refine ⟨by omega, i', o2, ?_, h7⟩
            rw [show j - k = (j - (k + 1)) + 1 by omega]
            simpa using h6
        · simp only [look]
          split
          · rfl
          · rename_i e
            cases j with
            | zero => exact (e rfl).elim
            | succ j =>
              have := h4 j i' (by simpa using hj)
              rwa [show k + 1 + j = k + (j + 1) by omega] at this
      · cases h
    · cases h
end
end Go.Gw
namespace Go.Gw
open Go
set_option linter.unusedVariables false
set_option linter.unusedSimpArgs false
theorem run_callFunc {P : Program} {f : FuncId} (h : ∃ fn, P.funcs[f]? = some fn ∧ fn.body.isSome = true ∧ (fn.name == "runtime.NumGoroutine") = false) (args : Array Value) (w : World) :
    (callFunc f args).run P w = .ok (.enter f args) w := by
  obtain ⟨fn, h1, h2, h3⟩ := h
  have h4 : fn.body.isNone = false := by cases hb : fn.body <;> simp_all
  simp only [callFunc, Sem.run_bind, run_program, Result.andThen_ok, h1, h3, h4, Bool.false_eq_true, if_false, Sem.run_pure]
theorem nodupB_spec : ∀ {l : List Nat}, nodupB l = true → l.Nodup
  | [], _ => List.nodup_nil
  | x :: l, h => by
    have := nodupB_cons h
    exact List.nodup_cons.2 ⟨this.1, nodupB_spec this.2⟩
theorem nm_inj {d j k : Nat} (h : nm d j = nm d k) : j = k := by unfold nm at h; omega
theorem backOld_fst (ps : List Nat) (d : Nat) (H : List (Nat × Ob)) : ∀ (l : List Nat) (k : Nat), (backOld ps d H k l).map Prod.fst = l
  | [], k => rfl
  | i :: l, k => by simp [backOld, backOld_fst ps d H l (k + 1)]
theorem backOld_mem (ps : List Nat) (d : Nat) (H : List (Nat × Ob)) : ∀ (l : List Nat) (k j i : Nat), l[j]? = some i → (i, (look H (k + j)).map (Ob.ren (nameR ps d))) ∈ backOld ps d H k l
  | i' :: l, k, 0, i, h => by
    simp at h
    subst h
    simp only [backOld, Nat.add_zero]
    cases look H k <;> exact List.mem_cons_self
  | i' :: l, k, j + 1, i, h => by
    have := backOld_mem ps d H l (k + 1) j i (by simpa using h)
    rw [show k + 1 + j = k + (j + 1) by omega] at this
    exact List.mem_cons_of_mem _ this
  | [], k, j, i, h => by simp at h
theorem backNew_mem (ps : List Nat) (d : Nat) : ∀ (H : List (Nat × Ob)) (k : Nat) (o : Ob), (k, o) ∈ H → ps.length ≤ k → (nameR ps d k, some (o.ren (nameR ps d))) ∈ backNew ps d H
  | (k', o') :: H, k, o, h, hk => by
    rcases List.mem_cons.1 h with e | h
    · cases e
      have : decide (k' < ps.length) = false := by simpa using hk
      simp only [backNew, this]
      exact List.mem_cons_self
    · simp only [backNew]
      split
      · exact backNew_mem ps d H k o h hk
      · exact List.mem_cons_of_mem _ (backNew_mem ps d H k o h hk)
theorem backNew_fst (ps : List Nat) (d : Nat) : ∀ (H : List (Nat × Ob)) (i : Nat), i ∈ (backNew ps d H).map Prod.fst → ∃ k o, (k, o) ∈ H ∧ ps.length ≤ k ∧ i = nm d (k - ps.length)
  | (k', o') :: H, i, h => by
    simp only [backNew] at h
    split at h
    · obtain ⟨k, o, h1, h2⟩ := backNew_fst ps d H i h
      exact ⟨k, o, List.mem_cons_of_mem _ h1, h2⟩
    · rename_i hk
      simp only [decide_eq_false_iff_not, Nat.not_lt] at hk
      simp only [List.map_cons, List.mem_cons] at h
      rcases h with h | h
      · exact ⟨k', o', List.mem_cons_self, hk, by rw [h]; unfold nameR; rw [List.getElem?_eq_none hk]⟩
      · obtain ⟨k, o, h1, h2⟩ := backNew_fst ps d H i h
        exact ⟨k, o, List.mem_cons_of_mem _ h1, h2⟩
  | [], i, h => by simp [backNew] at h
theorem backNew_nodup (ps : List Nat) (d : Nat) : ∀ (H : List (Nat × Ob)), (H.map Prod.fst).Nodup → ((backNew ps d H).map Prod.fst).Nodup
  | [], _ => List.nodup_nil
  | (k, o) :: H, h => by
    simp only [List.map_cons, List.nodup_cons] at h
    simp only [backNew]
    split
    · exact backNew_nodup ps d H h.2
    · rename_i hk
      simp only [decide_eq_false_iff_not, Nat.not_lt] at hk
      simp only [List.map_cons, List.nodup_cons]
      refine ⟨fun hm => ?_, backNew_nodup ps d H h.2⟩
      obtain ⟨k', o', h1, h2, h3⟩ := backNew_fst ps d H _ hm
      have : nameR ps d k = nm d (k - ps.length) := by unfold nameR; rw [List.getElem?_eq_none hk]
      rw [this] at h3
      have := nm_inj h3
      have : k = k' := by omega
      subst this
      exact h.1 (List.mem_map.2 ⟨_, h1, rfl⟩)
theorem mem_look {α : Type} : ∀ {l : List (Nat × α)} {t : Nat} {c : α}, (l.map Prod.fst).Nodup → (t, c) ∈ l → look l t = some c
  | (u, d) :: r, t, c, hn, h => by
    simp only [List.map_cons, List.nodup_cons] at hn
    simp only [look]
    rcases List.mem_cons.1 h with e | h
    · cases e; simp
    · have : ¬ u = t := fun e => hn.1 (e ▸ List.mem_map.2 ⟨_, h, rfl⟩)
      rw [if_neg this]
      exact mem_look hn.2 h
theorem freshs_get : ∀ (l : List AV) (j : Nat) (c : AV), AV.freshs l = true → l[j]? = some c → c.fresh = true
  | [], j, c, _, h => by simp at h
  | d :: l, 0, c, hf, hj => by
    simp only [AV.freshs, Bool.and_eq_true] at hf
    simp only [List.getElem?_cons_zero, Option.some.injEq] at hj
    exact hj ▸ hf.1
  | d :: l, j + 1, c, hf, hj => by
    simp only [AV.freshs, Bool.and_eq_true] at hf
    exact freshs_get l j c hf.2 (by simpa using hj)
theorem rep_fresh {F Z Z' : Nat → Prop} {ι : Nat → Value} {w : World} : ∀ {c : AV} {x : Value}, RepA F Z ι w c x → c.fresh = true → RepA F Z' ι w c x := by
  intro c x h
  induction h with
  | pt c x h => exact fun _ => .pt _ _ h
  | pf c x h =>
    intro hf
    cases h with
    | v => exact .pf _ _ (.v _)
    | any => exact .pf _ _ (.any _)
    | nil => simp [AV.fresh] at hf
    | emp => simp [AV.fresh] at hf
    | sl => simp [AV.fresh] at hf
    | pp => simp [AV.fresh] at hf
    | cl => simp [AV.fresh] at hf
    | nm => simp [AV.fresh] at hf
  | own i => exact fun _ => .own i
  | adr i off b h => exact fun _ => .adr i off b h
  | elt i esz k off b n cap h => exact fun _ => .elt i esz k off b n cap h
  | vw i esz k x h => exact fun _ => .vw i esz k x h
  | ag cs xs h1 h2 ih =>
    intro hf
    simp only [AV.fresh] at hf
    exact .ag cs xs h1 fun j c hj => ih j c hj (freshs_get _ _ _ hf hj)
  | tp cs xs h1 h2 ih =>
    intro hf
    simp only [AV.fresh] at hf
    exact .tp cs xs h1 fun j c hj => ih j c hj (freshs_get _ _ _ hf hj)
  | cl f first caps fs cs h1 h2 h3 h4 ih3 ih4 =>
    intro hf
    simp only [AV.fresh, Bool.and_eq_true] at hf
    exact .cl f first caps fs cs h1 h2 (fun j c hj => ih3 j c hj (freshs_get _ _ _ hf.1 hj)) (fun j c hj => ih4 j c hj (freshs_get _ _ _ hf.2 hj))
section
variable {P : Program} {cx : Cx} {ι : Nat → Value} {ow : Nat → Option Nat} {s : St} {a : Act} {w : World} {d : Nat} {det : Bool}
theorem call_upon (hm : Models cx ι ow s a w) {f : FuncId} {args : List AV} {K : AV → Upd → Prop} (h : ACall P cx.G det s.obj d f args K) (hfresh : ∀ e, e ∈ (List.range 8).map (nm d) → s.noid e) {vs : Array Value}
    (hl : vs.size = args.length) (hr : ∀ j c, args[j]? = some c → RepA (zF cx ow) (zZ cx ow) ι w c (vs.getD j undef))
    {o : Oper} {next : Act → World → Prop} {Q : Exit → Act → World → Prop}
    (hn : ∀ ι' ow' c u v w', K c u → Models cx ι' ow' (s.upd u) a w' → RepA (zF cx ow') (zZ cx ow') ι' w' c v → next (a.put o.dst v) w') :
    o.upon P a next Q ((callFunc f vs).run P w) := by
  obtain ⟨ps, cargs, H, hnd, hnew, hargs, hH, R, ⟨hcan, hp⟩, _, hR⟩ := h
  obtain ⟨hH1, hH2⟩ := handed_spec hH
  have hnodup := nodupB_spec hnd
  let ιc : Nat → Value := fun k => ι (ps[k]?.getD 0)
  let owc : Nat → Option Nat := fun b => (ow b).bind (idxOf ps)
  let Z0 : Nat → Prop := fun b => owc b = none ∧ (lentB s.obj ps args = true ∨ zZ cx ow b)
  have hι : ∀ k i, ps[k]? = some i → ιc k = ι i := fun k i h => by simp [ιc, h]
  have hZ : ∀ b, zZ cx ow b → Z0 b := fun b hb => ⟨by simp [owc, hb.1], .inr hb⟩
  have hL : lentB s.obj ps args = true → ∀ b i, ow b = some i → i ∉ ps → Z0 b := fun hl b i hb hi => ⟨by simp [owc, hb, idxOf_none.2 hi], .inl hl⟩
  have hL1 : (∃ i, i ∈ AV.idss args ∧ i ∉ ps) → ∀ b i, ow b = some i → i ∉ ps → Z0 b := fun ⟨i, h1, h2⟩ => hL (by
    simp only [lentB, Bool.or_eq_true, List.any_eq_true]
    exact .inl ⟨i, h1, by simpa using h2⟩)
  obtain ⟨ha1, ha2⟩ := args_rep hm hZ hι hr hargs hL1
  have howc : ∀ b k, owc b = some k → ∃ i, ow b = some i ∧ ps[k]? = some i := fun b k hb => by
    simp only [owc, Option.bind_eq_some_iff] at hb
    obtain ⟨i, h1, h2⟩ := hb
    exact ⟨i, h1, idxOf_get h2⟩
  rw [run_callFunc hcan, Oper.upon_enter]
  refine (hp w Z0 ιc owc vs (hl.trans ha1.symm) (fun b k hb => ?_) (fun b hb => hb.1) (fun k o ho => ?_) ha2 (fun g c hg => (hm.gl g c hg).mono fun b hb _ => ⟨rfl, hZ b hb⟩)).mono ?_
  · obtain ⟨i, h1, h2⟩ := howc b k hb
    have := hH2 k i h2
    rwa [Nat.zero_add] at this
  · obtain ⟨_, i, o', h1, h2, h3⟩ := hH1 k o ho
    rw [Nat.sub_zero] at h1
    rw [hι k i h1]
    refine obArg_rep hm hZ hι (fun b hb => ?_) h2 h3 ?_
    · simp only [owc, hb, Option.bind_some]; exact idxOf_of_get hnd h1
    · rintro ⟨j, cs, rfl, h4, h5⟩
      refine hL ?_
      simp only [lentB, Bool.or_eq_true, List.any_eq_true]
      exact .inr ⟨i, List.mem_of_getElem? h1, by rw [h2]; simp only [List.any_eq_true]; exact ⟨j, h4, by simpa using h5⟩⟩
  rintro e w' ⟨x, r, H', ι', ow', rfl, hrr, hsame, hrep, hobs, hdom, hext⟩
  obtain ⟨hret, hk⟩ := hR r H' hrr
  simp only [retOk, Bool.and_eq_true, Bool.or_eq_true, Bool.not_eq_true', List.all_eq_true, decide_eq_true_eq] at hret
  obtain ⟨⟨⟨⟨hk1, hk2⟩, hk3⟩, hk4⟩, hk5⟩ := hret
  have hHn := nodupB_spec hk1
  let σ : Nat → Nat := nameR ps d
  have hσ1 : ∀ k i, ps[k]? = some i → σ k = i := fun k i h => by simp [σ, nameR, h]
  have hσ2 : ∀ k, ps.length ≤ k → σ k = nm d (k - ps.length) := fun k h => by simp [σ, nameR, List.getElem?_eq_none h]
  have hnotps : ∀ j, j < 8 → nm d j ∉ ps := fun j hj hm => by
    rw [List.all_eq_true] at hnew
    have := hnew _ hm
    simp only [Bool.not_eq_true', List.contains_eq_mem, decide_eq_false_iff_not, List.mem_map, List.mem_range, not_exists, not_and] at this
    exact this j hj rfl
  have hkey : ∀ k o, look H' k = some o → k < ps.length + 8 := fun k o h => hk2 (k, o) (look_mem h)
  -- the new names
  let ι2 : Nat → Value := fun i => match (List.range 8).find? (fun j => decide (nm d j = i) && (look H' (ps.length + j)).isSome) with
    | some j => ι' (ps.length + j)
    | none => ι i
  have hι2new : ∀ k o, look H' k = some o → ps.length ≤ k → ι2 (σ k) = ι' k := fun k o hlk hle => by
    have hlt := hkey k o hlk
    have hf : (List.range 8).find? (fun j => decide (nm d j = σ k) && (look H' (ps.length + j)).isSome) = some (k - ps.length) := by
      rw [hσ2 k hle]
      cases hfd : (List.range 8).find? (fun j => decide (nm d j = nm d (k - ps.length)) && (look H' (ps.length + j)).isSome) with
      | none =>
        rw [List.find?_eq_none] at hfd
        have := hfd (k - ps.length) (List.mem_range.2 (by omega))
        simp [show ps.length + (k - ps.length) = k by omega, hlk] at this
      | some j =>
        have := List.find?_some hfd
        simp only [Bool.and_eq_true, decide_eq_true_eq] at this
        rw [nm_inj this.1]
    show (match (List.range 8).find? (fun j => decide (nm d j = σ k) && (look H' (ps.length + j)).isSome) with
      | some j => ι' (ps.length + j) | none => ι (σ k)) = ι' k
    rw [hf]
    show ι' (ps.length + (k - ps.length)) = ι' k
    rw [show ps.length + (k - ps.length) = k by omega]
  have hι2old : ∀ i, i ∉ (List.range 8).map (nm d) → ι2 i = ι i := fun i hi => by
    have : (List.range 8).find? (fun j => decide (nm d j = i) && (look H' (ps.length + j)).isSome) = none := by
      rw [List.find?_eq_none]
      intro j hj
      simp only [List.mem_map, not_exists, not_and] at hi
      simp [hi j hj]
    show (match (List.range 8).find? (fun j => decide (nm d j = i) && (look H' (ps.length + j)).isSome) with
      | some j => ι' (ps.length + j) | none => ι i) = ι i
    rw [this]
  have hι2 : ∀ k o, look H' k = some o → ι2 (σ k) = ι' k := fun k o hlk => by
    rcases Nat.lt_or_ge k ps.length with hlt | hge
    · have hpk : ps[k]? = some ps[k] := List.getElem?_eq_getElem hlt
      rw [hσ1 k _ hpk, hι2old]
      · have h1 := hH2 k _ hpk
        rw [Nat.zero_add] at h1
        rw [hsame k h1 (by rw [hlk]; rfl)]
        exact (hι k _ hpk).symm
      · intro hm
        simp only [List.mem_map, List.mem_range] at hm
        obtain ⟨j, hj, he⟩ := hm
        exact hnotps j hj (he ▸ List.getElem_mem _)
    · exact hι2new k o hlk hge
  have hcov : ∀ l : List Nat, keysB ps l H' = true → ∀ k, k ∈ l → ι2 (σ k) = ι' k := fun l hl k hk => by
    simp only [keysB, List.all_eq_true] at hl
    have := hl k hk
    cases hlk : look H' k with
    | none => rw [hlk] at this; cases this
    | some o => exact hι2 k o hlk
  let ow2 : Nat → Option Nat := fun b => match ow' b with
    | some k => some (σ k)
    | none => if w.heap.size ≤ b then none else match ow b with
      | some i => if i ∈ ps then none else some i
      | none => none
  have how2n : ∀ b, b < w.heap.size → ow b = none → ow' b = none ∧ ow2 b = none := fun b hb ho => by
    have h1 : ow' b = none := by
      cases h : ow' b with
      | none => rfl
      | some k =>
        rcases (hdom b k h).2 with ⟨k', h2⟩ | h2
        · obtain ⟨i, h3, _⟩ := howc b k' h2; rw [ho] at h3; cases h3
        · omega
    exact ⟨h1, by simp [ow2, h1, ho]⟩
  have how2i : ∀ b i, b < w.heap.size → ow b = some i → i ∉ ps → ow' b = none ∧ ow2 b = some i := fun b i hb ho hi => by
    have h1 : ow' b = none := by
      cases h : ow' b with
      | none => rfl
      | some k =>
        rcases (hdom b k h).2 with ⟨k', h2⟩ | h2
        · obtain ⟨i', h3, h4⟩ := howc b k' h2
          rw [ho] at h3; cases h3
          exact (hi (List.mem_of_getElem? h4)).elim
        · omega
    refine ⟨h1, ?_⟩
    simp only [ow2, h1, ho]
    rw [if_neg (by omega), if_neg hi]
  have hsameb : ∀ b, b < w.heap.size → (∀ i, ow b = some i → i ∉ ps) → w'.heap[b]? = w.heap[b]? := fun b hb hno => by
    refine hext.block b hb ?_
    rintro ⟨k, hk'⟩
    obtain ⟨i, h1, h2⟩ := howc b k hk'
    exact hno i h1 (List.mem_of_getElem? h2)
  have haF : ∀ b, (ow' b = none ∧ ((∃ i, owc b = some i) ∨ w.heap.size ≤ b)) → zF cx ow2 b := fun b hb => by
    rcases hb.2 with ⟨k, hk'⟩ | h
    · obtain ⟨i, h1, h2⟩ := howc b k hk'
      refine ⟨?_, (hm.dom b i h1).2⟩
      simp only [ow2, hb.1, h1]
      split
      · rfl
      · rw [if_pos (List.mem_of_getElem? h2)]
    · refine ⟨?_, .inr (Nat.le_trans hm.ext.size h)⟩
      simp only [ow2, hb.1]
      rw [if_pos h]
  have haZ : lentB s.obj ps args = false → ∀ b, (ow' b = none ∧ (Z0 b ∨ (∃ i, owc b = some i) ∨ w.heap.size ≤ b)) → zZ cx ow2 b := fun hlent b hb => by
    rcases hb.2 with h | h
    · rcases h.2 with h1 | h1
      · rw [hlent] at h1; cases h1
      · refine ⟨?_, h1.2⟩
        simp only [ow2, hb.1, h1.1]
        split <;> rfl
    · exact zFZ (haF b ⟨hb.1, h⟩)
  have hFst : ((backU ps d H').map Prod.fst).Nodup := by
    simp only [backU, List.map_append, backOld_fst]
    rw [List.nodup_append]
    refine ⟨hnodup, backNew_nodup ps d H' hHn, fun i hi j hj e => ?_⟩
    subst e
    obtain ⟨k, o, h1, h2, h3⟩ := backNew_fst ps d H' _ hj
    have := hk2 (k, o) h1
    exact hnotps (k - ps.length) (by simp only at this; omega) (h3 ▸ hi)
  have hobj : ∀ k o, look H' k = some o → (s.upd (backU ps d H')).obj (σ k) = some (o.ren σ) := fun k o hlk => by
    rw [obj_upd]
    refine updO_mem _ _ _ _ hFst ?_
    simp only [backU, List.mem_append]
    rcases Nat.lt_or_ge k ps.length with hlt | hge
    · refine .inl ?_
      have hpk : ps[k]? = some ps[k] := List.getElem?_eq_getElem hlt
      have := backOld_mem ps d H' ps 0 k _ hpk
      rw [Nat.zero_add, hlk] at this
      rwa [hσ1 k _ hpk]
    · exact .inr (backNew_mem ps d H' k o (look_mem hlk) hge)
  have hobjInv : ∀ i o2, (s.upd (backU ps d H')).obj i = some o2 → (∃ k o, look H' k = some o ∧ i = σ k ∧ o2 = o.ren σ) ∨ (s.obj i = some o2 ∧ i ∉ ps ∧ i ∉ (backU ps d H').map Prod.fst) := fun i o2 hi => by
    by_cases hmem : i ∈ (backU ps d H').map Prod.fst
    · have hmem' := hmem
      simp only [backU, List.map_append, List.mem_append, backOld_fst] at hmem
      rcases hmem with h1 | h1
      · obtain ⟨k, hk', rfl⟩ := List.mem_iff_getElem.1 h1
        have hpk : ps[k]? = some ps[k] := List.getElem?_eq_getElem hk'
        have hb := backOld_mem ps d H' ps 0 k _ hpk
        rw [Nat.zero_add] at hb
        have h2 : (s.upd (backU ps d H')).obj ps[k] = (look H' k).map (Ob.ren (nameR ps d)) := by
          rw [obj_upd]
          exact updO_mem _ _ _ _ hFst (by simp only [backU, List.mem_append]; exact .inl hb)
        rw [h2, Option.map_eq_some_iff] at hi
        obtain ⟨o, h3, rfl⟩ := hi
        exact .inl ⟨k, o, h3, (hσ1 k _ hpk).symm, rfl⟩
      · obtain ⟨k, o, h2, h3, h4⟩ := backNew_fst ps d H' i h1
        have hlk := mem_look hHn h2
        have := hobj k o hlk
        rw [hσ2 k h3, ← h4, hi] at this
        cases this
        exact .inl ⟨k, o, hlk, by rw [hσ2 k h3]; exact h4, rfl⟩
    · refine .inr ⟨?_, ?_, hmem⟩
      · rw [obj_upd, updO_out _ _ _ hmem] at hi; exact hi
      · intro h; exact hmem (by simp only [backU, List.map_append, List.mem_append, backOld_fst]; exact .inl h)
  refine hn ι2 ow2 _ _ x w' hk ?_ ?_
  · refine hm.change (env_upd _ s) (fun i => ?_) (fun b hb ho => ⟨(how2n b hb ho).2, hsameb b hb (fun i h => by rw [ho] at h; cases h)⟩) (fun b i hb => ?_) hext.os hext.tape hext.output hext.drawn hext.size (fun i o2 hi => ?_)
    · by_cases h : i ∈ (List.range 8).map (nm d)
      · exact .inr (hfresh i h)
      · exact .inl (hι2old i h)
    · simp only [ow2] at hb
      split at hb
      · rename_i k hk'
        cases hb
        obtain ⟨h1, h2⟩ := hdom b k hk'
        cases hlk : look H' k with
        | none => rw [hlk] at h1; cases h1
        | some o =>
          refine ⟨by rw [hobj k o hlk]; rfl, ?_⟩
          rcases h2 with ⟨k', h3⟩ | h3
          · obtain ⟨i, h4, _⟩ := howc b k' h3; exact (hm.dom b i h4).2
          · exact .inr (Nat.le_trans hm.ext.size h3)
      · split at hb
        · cases hb
        · split at hb
          · rename_i i' hi'
            split at hb
            · cases hb
            · rename_i hnp
              cases hb
              obtain ⟨h1, h2⟩ := hm.dom b i hi'
              refine ⟨?_, h2⟩
              by_cases hmem : i ∈ (backU ps d H').map Prod.fst
              · simp only [backU, List.map_append, List.mem_append, backOld_fst] at hmem
                rcases hmem with h3 | h3
                · exact (hnp h3).elim
                · obtain ⟨k, o, h4, h5, h6⟩ := backNew_fst ps d H' i h3
                  have := hobj k o (mem_look hHn h4)
                  rw [hσ2 k h5, ← h6] at this
                  rw [this]; rfl
              · rw [obj_upd, updO_out _ _ _ hmem]; exact h1
          · cases hb
    · rcases hobjInv i o2 hi with ⟨k, o, hlk, rfl, rfl⟩ | ⟨h1, h2, h3⟩
      · refine .inr fun _ _ _ => ?_
        have hob := hobs k o hlk
        rw [hι2 k o hlk]
        have hS : ∀ b, ow' b = some k → ow2 b = some (σ k) := fun b hb => by simp only [ow2, hb]
        have hids := (hk4 (k, o) (look_mem hlk)).1
        cases o with
        | box cs =>
          obtain ⟨b, c, t, e1, e2, e3, e4, e5⟩ := hob
          refine ⟨b, c, t, e1, hS b e2, e3, by rw [rens_length]; exact e4, fun j cc hj => ?_⟩
          rw [rens_get, Option.map_eq_some_iff] at hj
          obtain ⟨c', hj, rfl⟩ := hj
          cases hlent : lentB s.obj ps args with
          | false =>
            exact (e5 j c' hj).ren (fun b hb _ => haF b hb) (fun b hb _ => haZ hlent b hb) (fun k' hk' => hcov _ hids k' (idss_mem hj hk'))
          | true =>
            have hfr : AV.freshs cs = true := by
              have := (hk5.resolve_left (by rw [hlent]; simp)).2 (k, .box cs) (look_mem hlk)
              exact this
            exact (rep_fresh (Z' := zZ cx ow2) (e5 j c' hj) (freshs_get _ _ _ hfr hj)).ren (fun b hb _ => haF b hb) (fun b hb _ => hb) (fun k' hk' => hcov _ hids k' (idss_mem hj hk'))
        | row m nn esz n g hl =>
          have hhl : hl = [] := by
            have := (hk4 (k, .row m nn esz n g hl) (look_mem hlk)).2
            simpa using this
          subst hhl
          rcases hob with e0 | ⟨b, cap, c, t, q, e1, e2, e3, e4, e5, eq, e6⟩
          · exact .inl e0
          · refine .inr ⟨b, cap, c, t, q, e1, hS b e2, e3, e4, e5, eq, fun p r' hp' hr' => ?_⟩
            have e7 := e6 p r' hp' hr'
            cases m with
            | z =>
              cases hlent : lentB s.obj ps args with
              | false => exact RepP.mono (fun b hb _ => ⟨rfl, haZ hlent b hb⟩) e7
              | true =>
                have := (hk5.resolve_left (by rw [hlent]; simp)).2 (k, .row .z nn esz n g []) (look_mem hlk)
                simp [Ob.fresh] at this
            | f => exact RepP.mono (fun b hb _ => ⟨rfl, haF b hb⟩) e7
            | u =>
              simp only [EltOk, hole] at e7 ⊢
              exact e7.mono fun b hb _ => ⟨rfl, hS b hb.1, hb.2⟩
        | map f n =>
          obtain ⟨b, e, k', e1, e2, e3⟩ := hob
          exact ⟨b, e, k', e1, hS b e2, e3⟩
      · have hno : i ∉ (List.range 8).map (nm d) ∨ s.noid i := by
          by_cases h : i ∈ (List.range 8).map (nm d)
          · exact .inr (hfresh i h)
          · exact .inl h
        by_cases hnn : ι2 i = ι i
        · exact .inl ⟨hnn, h1, fun b hb ho => ⟨(how2i b i hb ho h2).2, hsameb b hb (fun i' h => by rw [ho] at h; cases h; exact h2)⟩⟩
        · -- a name that is given anew
          exfalso
          have : (List.range 8).find? (fun j => decide (nm d j = i) && (look H' (ps.length + j)).isSome) ≠ none := by
            intro hf
            apply hnn
            show (match (List.range 8).find? (fun j => decide (nm d j = i) && (look H' (ps.length + j)).isSome) with
              | some j => ι' (ps.length + j) | none => ι i) = ι i
            rw [hf]
          cases hfd : (List.range 8).find? (fun j => decide (nm d j = i) && (look H' (ps.length + j)).isSome) with
          | none => exact this hfd
          | some j =>
            have hj := List.find?_some hfd
            simp only [Bool.and_eq_true, decide_eq_true_eq] at hj
            cases hlk : look H' (ps.length + j) with
            | none => rw [hlk] at hj; simp at hj
            | some o =>
              apply h3
              have hb := backNew_mem ps d H' (ps.length + j) o (look_mem hlk) (by omega)
              have e : nameR ps d (ps.length + j) = i := by
                have := hσ2 (ps.length + j) (by omega)
                rw [show ps.length + j - ps.length = j by omega, hj.1] at this
                exact this
              rw [e] at hb
              simp only [backU, List.map_append, List.mem_append]
              exact .inr (List.mem_map.2 ⟨_, hb, rfl⟩)
  · cases hlent : lentB s.obj ps args with
    | false => exact hrep.ren (fun b hb _ => haF b hb) (fun b hb _ => haZ hlent b hb) (hcov _ hk3)
    | true =>
      have hfr := (hk5.resolve_left (by rw [hlent]; simp)).1
      exact (rep_fresh (Z' := zZ cx ow2) hrep hfr).ren (fun b hb _ => haF b hb) (fun b hb _ => hb) (hcov _ hk3)
end
end Go.Gw
