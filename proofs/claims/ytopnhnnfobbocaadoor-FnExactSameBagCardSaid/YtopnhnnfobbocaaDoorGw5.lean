/- A call by its contract holds in all worlds that a state describes; with no condition. -/
import Derived.Test.YtopnhnnfobbocaaDoorGw4
namespace Go.Gw
open Go
set_option linter.unusedVariables false
set_option linter.unusedSimpArgs false

section
variable {cx : Cx} {ι : Nat → Value} {ow : Nat → Option Nat} {s : St} {a : Act} {w : World}

theorem pvw_rep (hm : Models cx ι ow s a w) {ps : List Nat} {Z' : Nat → Prop} (hZ : ∀ b, zZ cx ow b → Z' b) : ∀ (f : Nat),
    (∀ {c : AV} {x : Value} {pv : PV}, RepA (zF cx ow) (zZ cx ow) ι w c x → AV.pvw s.obj ps f c = some pv → ((∃ i, i ∈ c.ids ∧ i ∉ ps) → ∀ b i, ow b = some i → i ∉ ps → Z' b) → RepP Z' w pv x) ∧
    (∀ {cs : List AV} {l : List PV} {xs : Array Value}, (∀ j c, cs[j]? = some c → RepA (zF cx ow) (zZ cx ow) ι w c (xs.getD j undef)) → AV.pvws s.obj ps f cs = some l →
      ((∃ i, i ∈ AV.idss cs ∧ i ∉ ps) → ∀ b i, ow b = some i → i ∉ ps → Z' b) → l.length = cs.length ∧ ∀ j c, l[j]? = some c → RepP Z' w c (xs.getD j undef)) := by
  have hP : ∀ {fr : Bool} {c : PV} {x : Value}, RepA (zF cx ow) (zZ cx ow) ι w (.p fr c) x → RepP Z' w c x := fun {fr c x} h => by
    rw [rep_p] at h
    refine h.mono fun b hb _ => ⟨rfl, hZ b ?_⟩
    cases fr
    · exact hb
    · exact zFZ hb
  have hOwn : ∀ (f : Nat) {i : Nat} {pv : PV}, AV.pvw s.obj ps f (.own i) = some pv → (∀ b i, ow b = some i → i ∉ ps → Z' b) → RepP Z' w pv (ι i) := by
    intro f i pv h hl
    cases f <;>
    · simp only [AV.pvw, pvwStep] at h
      split at h
      · cases h
      · rename_i hps
        split at h
        · rename_i m nn e n g ho
          cases h
          refine (hm.obs i _ ho).frozen (fun b hb _ => ?_) (fun b hb _ => hl b i hb (by simpa using hps))
          cases m with
          | z => exact hZ b hb
          | f => exact hZ b (zFZ hb)
          | u => exact hb.elim
        · cases h
  have hL : ∀ (f : Nat), (∀ {c : AV} {x : Value} {pv : PV}, RepA (zF cx ow) (zZ cx ow) ι w c x → AV.pvw s.obj ps f c = some pv → ((∃ i, i ∈ c.ids ∧ i ∉ ps) → ∀ b i, ow b = some i → i ∉ ps → Z' b) → RepP Z' w pv x) →
      ∀ {cs : List AV} {l : List PV} {xs : Array Value}, (∀ j c, cs[j]? = some c → RepA (zF cx ow) (zZ cx ow) ι w c (xs.getD j undef)) → AV.pvws s.obj ps f cs = some l →
      ((∃ i, i ∈ AV.idss cs ∧ i ∉ ps) → ∀ b i, ow b = some i → i ∉ ps → Z' b) → l.length = cs.length ∧ ∀ j c, l[j]? = some c → RepP Z' w c (xs.getD j undef) := by
    intro f h1 cs
    induction cs with
    | nil => intro l xs _ h _; simp only [AV.pvws, mapO, Option.some.injEq] at h; subst h; exact ⟨rfl, fun j c h => by simp at h⟩
    | cons c cs ih =>
      intro l xs hr h hl
      simp only [AV.pvws, mapO] at h
      split at h
      · rename_i x y hx hy
        cases h
        have h2 := ih (xs := xs.extract 1 xs.size) (l := y) (fun j e hj => by
          have := hr (j + 1) e (by simpa using hj)
          rwa [show (xs.extract 1 xs.size).getD j undef = xs.getD (j + 1) undef by
            simp only [Array.getD_eq_getD_getElem?, Array.getElem?_extract]
            split
            · rw [Nat.add_comm]
            · rename_i hj'; rw [Array.getElem?_eq_none (by omega)]]) hy (fun ⟨i, h1, h2⟩ => hl ⟨i, by simp [AV.idss, h1], h2⟩)
        refine ⟨by simp [h2.1], fun j e hj => ?_⟩
        cases j with
        | zero =>
          simp at hj
          subst hj
          exact h1 (hr 0 c rfl) hx (fun ⟨i, h1, h2⟩ => hl ⟨i, by simp [AV.idss, h1], h2⟩)
        | succ j =>
          have := h2.2 j e (by simpa using hj)
          rwa [show (xs.extract 1 xs.size).getD j undef = xs.getD (j + 1) undef by
            simp only [Array.getD_eq_getD_getElem?, Array.getElem?_extract]
            split
            · rw [Nat.add_comm]
            · rename_i hj'; rw [Array.getElem?_eq_none (by omega)]] at this
      · cases h
  intro f
  induction f with
  | zero =>
    have h1 : ∀ {c : AV} {x : Value} {pv : PV}, RepA (zF cx ow) (zZ cx ow) ι w c x → AV.pvw s.obj ps 0 c = some pv → ((∃ i, i ∈ c.ids ∧ i ∉ ps) → ∀ b i, ow b = some i → i ∉ ps → Z' b) → RepP Z' w pv x := by
      intro c x pv hr h hl
      cases c with
      | p fr c => simp only [AV.pvw, pvwStep, Option.some.injEq] at h; subst h; exact hP hr
      | own i =>
        cases hr
        by_cases hps : i ∈ ps
        · simp [AV.pvw, pvwStep, hps] at h
        · exact hOwn 0 h (hl ⟨i, by simp [AV.ids], hps⟩)
      | _ => simp [AV.pvw, pvwStep] at h
    exact ⟨h1, hL 0 h1⟩
  | succ f ih =>
    have h1 : ∀ {c : AV} {x : Value} {pv : PV}, RepA (zF cx ow) (zZ cx ow) ι w c x → AV.pvw s.obj ps (f + 1) c = some pv → ((∃ i, i ∈ c.ids ∧ i ∉ ps) → ∀ b i, ow b = some i → i ∉ ps → Z' b) → RepP Z' w pv x := by
      intro c x pv hr h hl
      cases c with
      | p fr c => simp only [AV.pvw, pvwStep, Option.some.injEq] at h; subst h; exact hP hr
      | own i =>
        cases hr
        by_cases hps : i ∈ ps
        · simp [AV.pvw, pvwStep, hps] at h
        · exact hOwn (f + 1) h (hl ⟨i, by simp [AV.ids], hps⟩)
      | adr i o =>
        simp only [AV.pvw, pvwStep] at h
        split at h
        · cases h
        · rename_i hps
          have hps : i ∉ ps := by simpa using hps
          have hl' := hl ⟨i, by simp [AV.ids], hps⟩
          split at h
          · rename_i cs ho
            split at h
            · rename_i l hpv
              cases h
              cases hr with
              | adr _ _ b hb =>
                obtain ⟨b', xs, t, h4, h0, h5, h6, h7⟩ := hm.obs i _ ho
                rw [hb] at h4
                simp only [Value.pointer.injEq, Option.some.injEq, Addr.mk.injEq] at h4
                obtain ⟨rfl, _⟩ := h4
                obtain ⟨h8, h9⟩ := ih.2 (fun j c hj => h7 j c hj) hpv (fun _ => hl')
                refine .pp _ _ b o (fun j => xs.getD (o + j) undef) (fun j hj => cell_of_row h5 (by omega)) (fun j hj => ?_) (fun j hj => hl' b i h0 hps)
                have := h9 (o + j) (l[o + j]'(by omega)) (List.getElem?_eq_getElem (by omega))
                simpa [List.getD, List.getElem?_eq_getElem (show o + j < l.length by omega)] using this
            · cases h
          · cases h
      | cl g p q =>
        simp only [AV.pvw, pvwStep] at h
        split at h
        · rename_i x' y' hx hy
          cases h
          cases hr with
          | cl _ _ _ fs cs h2 h3 h4 h5 =>
            obtain ⟨k1, k2⟩ := ih.2 h4 hx (fun ⟨i, h1, h2⟩ => hl ⟨i, by simp [AV.ids, h1], h2⟩)
            obtain ⟨k3, k4⟩ := ih.2 h5 hy (fun ⟨i, h1, h2⟩ => hl ⟨i, by simp [AV.ids, h1], h2⟩)
            exact .cl _ _ _ fs cs (h2.trans k1.symm) (h3.trans k3.symm) k2 k4
        · cases h
      | _ => simp [AV.pvw, pvwStep] at h
    exact ⟨h1, hL (f + 1) h1⟩

mutual
theorem arg_rep (hm : Models cx ι ow s a w) {ps : List Nat} {Z' : Nat → Prop} {ιc : Nat → Value} (hZ : ∀ b, zZ cx ow b → Z' b) (hι : ∀ k i, ps[k]? = some i → ιc k = ι i) :
    ∀ {c c' : AV} {x : Value}, RepA (zF cx ow) (zZ cx ow) ι w c x → AV.arg s.obj ps c = some c' → ((∃ i, i ∈ c.ids ∧ i ∉ ps) → ∀ b i, ow b = some i → i ∉ ps → Z' b) → RepA (fun _ => False) Z' ιc w c' x
  | .p fr c, c', x, hr, h, hl => by
    have hP : RepP Z' w c x := by
      rw [rep_p] at hr
      refine hr.mono fun b hb _ => ⟨rfl, hZ b ?_⟩
      cases fr
      · exact hb
      · exact zFZ hb
    simp only [AV.arg] at h
    split at h
    · cases h; cases hP; exact rep_mkv _
    · cases h; exact .pf _ _ hP
  | .own i, c', x, hr, h, hl => by
    simp only [AV.arg] at h
    split at h
    · rename_i k hk
      cases h
      cases hr
      rw [← hι k i (idxOf_get hk)]
      exact .own k
    · rename_i hk
      simp only [Option.map_eq_some_iff] at h
      obtain ⟨pv, hpv, rfl⟩ := h
      exact .pf _ _ ((pvw_rep hm hZ 4).1 hr hpv hl)
  | .adr i o, c', x, hr, h, hl => by
    simp only [AV.arg] at h
    split at h
    · rename_i k hk
      cases h
      cases hr with
      | adr _ _ b hb => exact .adr k o b ((hι k i (idxOf_get hk)).trans hb)
    · simp only [Option.map_eq_some_iff] at h
      obtain ⟨pv, hpv, rfl⟩ := h
      exact .pf _ _ ((pvw_rep hm hZ 4).1 hr hpv hl)
  | .elt i e k o, c', x, hr, h, hl => by
    simp only [AV.arg] at h
    split at h
    · rename_i k' hk
      cases h
      cases hr with
      | elt _ _ _ _ b n cap hb => exact .elt k' e k o b n cap ((hι k' i (idxOf_get hk)).trans hb)
    · cases h
  | .ag cs, c', x, hr, h, hl => by
    simp only [AV.arg, Option.map_eq_some_iff] at h
    obtain ⟨ds, hd, rfl⟩ := h
    cases hr with
    | ag _ xs h1 h2 =>
      obtain ⟨h3, h4⟩ := args_rep hm hZ hι h2 hd (fun ⟨i, h1, h2⟩ => hl ⟨i, by simpa [AV.ids] using h1, h2⟩)
      exact .ag _ xs (h1.trans h3.symm) h4
  | .tp cs, c', x, hr, h, hl => by
    simp only [AV.arg, Option.map_eq_some_iff] at h
    obtain ⟨ds, hd, rfl⟩ := h
    cases hr with
    | tp _ xs h1 h2 =>
      obtain ⟨h3, h4⟩ := args_rep hm hZ hι h2 hd (fun ⟨i, h1, h2⟩ => hl ⟨i, by simpa [AV.ids] using h1, h2⟩)
      exact .tp _ xs (h1.trans h3.symm) h4
  | .cl f p q, c', x, hr, h, hl => by
    simp only [AV.arg] at h
    split at h
    · rename_i x' y' hx hy
      cases h
      cases hr with
      | cl _ _ _ fs xs h1 h2 h3 h4 =>
        obtain ⟨k1, k2⟩ := args_rep hm hZ hι h3 hx (fun ⟨i, h1, h2⟩ => hl ⟨i, by simp [AV.ids, h1], h2⟩)
        obtain ⟨k3, k4⟩ := args_rep hm hZ hι h4 hy (fun ⟨i, h1, h2⟩ => hl ⟨i, by simp [AV.ids, h1], h2⟩)
        exact .cl f _ _ fs xs (h1.trans k1.symm) (h2.trans k3.symm) k2 k4
    · cases h
theorem args_rep (hm : Models cx ι ow s a w) {ps : List Nat} {Z' : Nat → Prop} {ιc : Nat → Value} (hZ : ∀ b, zZ cx ow b → Z' b) (hι : ∀ k i, ps[k]? = some i → ιc k = ι i) :
    ∀ {cs ds : List AV} {xs : Array Value}, (∀ j c, cs[j]? = some c → RepA (zF cx ow) (zZ cx ow) ι w c (xs.getD j undef)) → AV.args s.obj ps cs = some ds →
      ((∃ i, i ∈ AV.idss cs ∧ i ∉ ps) → ∀ b i, ow b = some i → i ∉ ps → Z' b) → ds.length = cs.length ∧ ∀ j d, ds[j]? = some d → RepA (fun _ => False) Z' ιc w d (xs.getD j undef)
  | [], ds, xs, _, h, _ => by simp only [AV.args, Option.some.injEq] at h; subst h; exact ⟨rfl, fun j c h => by simp at h⟩
  | c :: cs, ds, xs, hr, h, hl => by
    simp only [AV.args] at h
    split at h
    · rename_i x y hx hy
      cases h
      have e : ∀ j, (xs.extract 1 xs.size).getD j undef = xs.getD (j + 1) undef := fun j => by
        simp only [Array.getD_eq_getD_getElem?, Array.getElem?_extract]
        split
        · rw [Nat.add_comm]
        · rename_i hj'; rw [Array.getElem?_eq_none (by omega)]
      obtain ⟨h1, h2⟩ := args_rep hm hZ hι (cs := cs) (xs := xs.extract 1 xs.size) (fun j d hj => by rw [e]; exact hr (j + 1) d (by simpa using hj)) hy (fun ⟨i, h1, h2⟩ => hl ⟨i, by simp [AV.idss, h1], h2⟩)
      refine ⟨by simp [h1], fun j d hj => ?_⟩
      cases j with
      | zero =>
        simp at hj
        subst hj
        exact arg_rep hm hZ hι (hr 0 c rfl) hx (fun ⟨i, h1, h2⟩ => hl ⟨i, by simp [AV.idss, h1], h2⟩)
      | succ j => rw [← e]; exact h2 j d (by simpa using hj)
    · cases h
end

theorem obArg_rep (hm : Models cx ι ow s a w) {ps : List Nat} {Z' : Nat → Prop} {ιc : Nat → Value} {owc : Nat → Option Nat} (hZ : ∀ b, zZ cx ow b → Z' b) (hι : ∀ k i, ps[k]? = some i → ιc k = ι i)
    {i k : Nat} (how : ∀ b, ow b = some i → owc b = some k) {o o' : Ob} (ho : s.obj i = some o) (h : Ob.arg s.obj ps o = some o')
    (hl : (∃ j cs, o = .box cs ∧ j ∈ AV.idss cs ∧ j ∉ ps) → ∀ b i, ow b = some i → i ∉ ps → Z' b) : ObOk (fun _ => False) Z' (fun b => owc b = some k) ιc w (ι i) o' := by
  have hob := hm.obs i o ho
  cases o with
  | box cs =>
    simp only [Ob.arg, Option.map_eq_some_iff] at h
    obtain ⟨ds, hd, rfl⟩ := h
    obtain ⟨b, c, t, h1, h2, h3, h4, h5⟩ := hob
    obtain ⟨h6, h7⟩ := args_rep hm hZ hι h5 hd (fun ⟨j, h1, h2⟩ => hl ⟨j, cs, rfl, h1, h2⟩)
    exact ⟨b, c, t, h1, how b h2, h3, h4.trans h6.symm, h7⟩
  | row m nn e n g hls =>
    simp only [Ob.arg] at h
    split at h
    · cases h
      rcases hob with h1 | ⟨b, cap, c, t, q, h1, h2, h3, h4, h5, hq, h6⟩
      · exact .inl h1
      · refine .inr ⟨b, cap, c, t, q, h1, how b h2, h3, h4, h5, hq, fun p r hp hr => ?_⟩
        have h7 := h6 p r hp hr
        cases m with
        | z => exact RepP.mono (fun b hb _ => ⟨rfl, hZ b hb⟩) h7
        | f => exact RepP.mono (fun b hb _ => ⟨rfl, hZ b (zFZ hb)⟩) h7
        | u =>
          simp only [EltOk, hole] at h7 ⊢
          exact h7.mono fun b hb _ => ⟨rfl, how b hb.1, hb.2⟩
    · cases h
  | map f n =>
    simp only [Ob.arg, Option.some.injEq] at h
    subst h
    obtain ⟨b, e, k', h1, h2, h3⟩ := hob
    exact ⟨b, e, k', h1, how b h2, h3⟩

theorem handed_spec {ob : Nat → Option Ob} {ps : List Nat} : ∀ {l : List Nat} {k : Nat} {H : List (Nat × Ob)}, handed ob ps k l = some H →
    (∀ j o', look H j = some o' → k ≤ j ∧ ∃ i o, l[j - k]? = some i ∧ ob i = some o ∧ Ob.arg ob ps o = some o') ∧ (∀ j i, l[j]? = some i → (look H (k + j)).isSome = true)
  | [], k, H, h => by simp only [handed, Option.some.injEq] at h; subst h; exact ⟨fun j o' h => by simp [look] at h, fun j i h => by simp at h⟩
  | i :: l, k, H, h => by
    simp only [handed] at h
    split at h
    · rename_i o ho
      split at h
      · rename_i o1 H1 h1 h2
        cases h
        obtain ⟨h3, h4⟩ := handed_spec h2
        refine ⟨fun j o' hj => ?_, fun j i' hj => ?_⟩
        · simp only [look] at hj
          split at hj
          · rename_i e
            cases hj
            subst e
            exact ⟨Nat.le_refl _, i, o, by simp, ho, h1⟩
          · obtain ⟨h5, i', o2, h6, h7⟩ := h3 j o' hj
            refine ⟨by omega, i', o2, ?_, h7⟩
            rw [show j - k = (j - (k + 1)) + 1 by omega]
            simpa using h6
        · simp only [look]
          split
          · rfl
          · rename_i e
            cases j with
            | zero => exact (e rfl).elim
            | succ j =>
              have := h4 j i' (by simpa using hj)
              rwa [show k + 1 + j = k + (j + 1) by omega] at this
      · cases h
    · cases h
end
end Go.Gw
