/- What a state may be weakened to; with no condition. -/
import Derived.Test.YtigaelckdbeecaaGreatDoorGw21
namespace Go.Gw
open Go
set_option linter.unusedVariables false
set_option linter.unusedSimpArgs false
def Wk (s s' : St) : Prop := ∀ (cx : Cx) (ι : Nat → Value) (ow : Nat → Option Nat) (a : Act) (w : World), Models cx ι ow s a w → ∃ ι' ow', Models cx ι' ow' s' a w
theorem Wk.refl (s : St) : Wk s s := fun _ ι ow _ _ h => ⟨ι, ow, h⟩
theorem Wk.trans {s s' s'' : St} (h : Wk s s') (h' : Wk s' s'') : Wk s s'' := fun cx ι ow a w hm => by
  obtain ⟨ι', ow', hm'⟩ := h cx ι ow a w hm
  exact h' cx ι' ow' a w hm'
theorem Wk.settle (s : St) : Wk s s.settle := fun cx ι ow a w hm => ⟨ι, hm.settle⟩
theorem Wk.drop (s : St) (l : List Nat) : Wk s (s.drop l) := fun cx ι ow a w hm => ⟨ι, ow, hm.drop l⟩
theorem Wk.dels (s : St) (l : List Nat) : Wk s (s.dels l) := fun cx ι ow a w hm => ⟨ι, _, hm.dels l⟩
def Mode.low : Mode → Mode → Bool
  | .u, .f => true
  | .u, .z => true
  | .f, .z => true
  | _, _ => false
def St.lower (s : St) (i : Nat) (m' : Mode) : St := match s.obj i with
  | some (.row m nn esz n g []) => match m.low m' with
    | true => s.setOb i (.row m' nn esz n g [])
    | false => s
  | _ => s
theorem Models.lower {cx : Cx} {ι : Nat → Value} {ow : Nat → Option Nat} {s : St} {a : Act} {w : World} (hm : Models cx ι ow s a w) (i : Nat) (m' : Mode) : ∃ ow', Models cx ι ow' (s.lower i m') a w := by
  unfold St.lower
  split
  · rename_i m nn esz n g ho
    split
    · rename_i hlow
      have hob := hm.obs i _ ho
      rcases hob with he | ⟨b, cap, c, t, q, h1, h2, h3, h4, h5, hq, h6⟩
      · refine ⟨ow, hm.change rfl (fun _ => .inl rfl) (fun b hl ho => ⟨ho, rfl⟩) (fun b j hj => ⟨?_, (hm.dom b j hj).2⟩) rfl rfl rfl (Nat.le_refl _) (Nat.le_refl _) fun j o hj => ?_⟩
        · rw [St.obj_setOb]; split
          · rfl
          · exact (hm.dom b j hj).1
        · rw [St.obj_setOb] at hj
          split at hj
          · rename_i e; subst e; cases hj
            exact .inr fun _ _ _ => .inl he
          · exact .inl ⟨rfl, hj, fun b hl h => ⟨h, rfl⟩⟩
      · let ow' : Nat → Option Nat := fun k => if ow k = some i ∧ q k ≠ none then none else ow k
        have hsub : ∀ k j, ow' k = some j → ow k = some j := fun k j h => by
          simp only [ow'] at h
          split at h
          · cases h
          · exact h
        refine ⟨ow', hm.change rfl (fun _ => .inl rfl) (fun b hl ho => ⟨by simp [ow', ho], rfl⟩) (fun b j hj => ⟨?_, (hm.dom b j (hsub b j hj)).2⟩) rfl rfl rfl (Nat.le_refl _) (Nat.le_refl _) fun j o hj => ?_⟩
        · rw [St.obj_setOb]; split
          · rfl
          · exact (hm.dom b j (hsub b j hj)).1
        · rw [St.obj_setOb] at hj
          split at hj
          · rename_i e; subst e; cases hj
            refine .inr fun hF hZ _ => .inr ⟨b, cap, c, t, q, h1, by simp [ow', h2, hq], h3, h4, h5, hq, fun p r hp hr => ?_⟩
            have h7 := h6 p r hp hr
            have hfree : ∀ k, ow k = some i → q k = some (p, r) → zF cx ow' k := fun k h8 h9 => ⟨by simp [ow', h8, h9], (hm.dom k i h8).2⟩
            have hF' : ∀ k, zF cx ow k → zF cx ow' k := fun k hk => ⟨by simp [ow', hk.1], hk.2⟩
            cases m <;> cases m' <;> simp only [Mode.low, Bool.false_eq_true] at hlow <;> simp only [EltOk] at h7 ⊢
            · exact h7.mono fun k hk _ => ⟨rfl, zFZ (hF' k hk)⟩
            · simp only [hole] at h7
              exact h7.toP fun k hk _ => zFZ (hfree k hk.1 hk.2)
            · simp only [hole] at h7
              exact h7.toP fun k hk _ => hfree k hk.1 hk.2
          · rename_i hne
            refine .inl ⟨rfl, hj, fun k hl h => ⟨?_, rfl⟩⟩
            simp only [ow']
            rw [if_neg]
            · exact h
            · rintro ⟨e, _⟩
              rw [h] at e
              cases e
              exact hne rfl
    · exact ⟨ow, hm⟩
  · exact ⟨ow, hm⟩
def St.lowers (s : St) : List (Nat × Mode) → St
  | [] => s
  | (i, m) :: l => (s.lower i m).lowers l
theorem Wk.lowers : ∀ (l : List (Nat × Mode)) (s : St), Wk s (s.lowers l)
  | [], s => .refl s
  | (i, m) :: l, s => Wk.trans (fun cx ι ow a w hm => ⟨ι, hm.lower i m⟩) (Wk.lowers l (s.lower i m))
inductive AvLe (s : St) (ρ : Nat → Nat) (nw : Nat → Bool) (kept : Nat → Prop) : AV → AV → Prop
  | any (c) : AvLe s ρ nw kept c (.p false .any)
  | le (fr c d) (h : PV.Le c d) : AvLe s ρ nw kept (.p fr c) (.p fr d)
  | leo (fr c d) (h : PV.Le c d) : AvLe s ρ nw kept (.p fr c) (.p false d)
  | sc (fr fr' x) : AvLe s ρ nw kept (.p fr (.v x)) (.p fr' (.v x))
  | own (i) (hn : nw i = false) : AvLe s ρ nw kept (.own (ρ i)) (.own i)
  | nil (fr i) (hn : nw i = true) : AvLe s ρ nw kept (.p fr (.v (.slice none 0 0))) (.own i)
  | adr (i off) (hn : nw i = false) : AvLe s ρ nw kept (.adr (ρ i) off) (.adr i off)
  | elt (i esz k off) (hn : nw i = false) : AvLe s ρ nw kept (.elt (ρ i) esz k off) (.elt i esz k off)
  | frz (i m nn esz n g d) (h : s.obj i = some (.row m nn esz n g [])) (hk : ¬ kept i) (hm : m ≠ .z) (hd : PV.Le (.sl nn esz n g) d) : AvLe s ρ nw kept (.own i) (.p true d)
  | frz' (i m nn esz n g d) (h : s.obj i = some (.row m nn esz n g [])) (hk : ¬ kept i) (hd : PV.Le (.sl nn esz n g) d) : AvLe s ρ nw kept (.own i) (.p false d)
  | ag (cs ds : List AV) (hl : cs.length = ds.length) (h : ∀ (j : Nat) (c d : AV), cs[j]? = some c → ds[j]? = some d → AvLe s ρ nw kept c d) : AvLe s ρ nw kept (.ag cs) (.ag ds)
  | tp (cs ds : List AV) (hl : cs.length = ds.length) (h : ∀ (j : Nat) (c d : AV), cs[j]? = some c → ds[j]? = some d → AvLe s ρ nw kept c d) : AvLe s ρ nw kept (.tp cs) (.tp ds)
  | cl (f : FuncId) (es bs cs ds : List AV) (hl : es.length = bs.length) (hl2 : cs.length = ds.length)
      (h : ∀ (j : Nat) (c d : AV), es[j]? = some c → bs[j]? = some d → AvLe s ρ nw kept c d) (h2 : ∀ (j : Nat) (c d : AV), cs[j]? = some c → ds[j]? = some d → AvLe s ρ nw kept c d) : AvLe s ρ nw kept (.cl f es cs) (.cl f bs ds)
def Mode.ok : Mode → Mode → Bool
  | .u, .u => true
  | .f, .f => true
  | .z, .z => true
  | .f, .z => true
  | _, _ => false
inductive ObLe (s : St) (ρ : Nat → Nat) (nw : Nat → Bool) (kept : Nat → Prop) : Ob → Ob → Prop
  | box (cs ds : List AV) (hl : cs.length = ds.length) (h : ∀ (j : Nat) (c d : AV), cs[j]? = some c → ds[j]? = some d → AvLe s ρ nw kept c d) : ObLe s ρ nw kept (.box cs) (.box ds)
  | row (m m' nn nn' esz n n' g g' hl hl') (hm : m.ok m' = true) (hnn : nn' = true → nn = true) (e : n = n') (hh : hl = hl'.map fun x => (x.1, x.2.1, ρ x.2.2)) (hw : ∀ x, x ∈ hl' → nw x.2.2 = false)
      (h : ∀ i j, i < n → j < esz → PV.Le (g i j) (g' i j)) : ObLe s ρ nw kept (.row m nn esz n g hl) (.row m' nn' esz n' g' hl')
  | map (f f' n n') (e : n = n') (h : ∀ k, f k = f' k) : ObLe s ρ nw kept (.map f n) (.map f' n')
def keptBy (ρ : Nat → Nat) (nw : Nat → Bool) (H : List (Nat × Ob)) (i : Nat) : Prop := ∃ x ∈ H, nw x.1 = false ∧ ρ x.1 = i
def nameOf (ι : Nat → Value) (ρ : Nat → Nat) (nw : Nat → Bool) (j : Nat) : Value := if nw j then .slice none 0 0 else ι (ρ j)
def invOf (ρ : Nat → Nat) (nw : Nat → Bool) (H : List (Nat × Ob)) (i : Nat) : Option Nat := (H.find? fun x => !nw x.1 && ρ x.1 == i).map Prod.fst
def owOf (ow : Nat → Option Nat) (ρ : Nat → Nat) (nw : Nat → Bool) (H : List (Nat × Ob)) (b : Nat) : Option Nat := (ow b).bind (invOf ρ nw H)
theorem invOf_spec {ρ : Nat → Nat} {nw : Nat → Bool} {H : List (Nat × Ob)} {i j : Nat} (h : invOf ρ nw H i = some j) : (∃ o, (j, o) ∈ H) ∧ nw j = false ∧ ρ j = i := by
  unfold invOf at h
  rw [Option.map_eq_some_iff] at h
  obtain ⟨⟨j', o⟩, h1, rfl⟩ := h
  have h2 := List.find?_some h1
  simp only [Bool.and_eq_true, Bool.not_eq_true', beq_iff_eq] at h2
  exact ⟨⟨o, List.mem_of_find?_eq_some h1⟩, h2.1, h2.2⟩
theorem mem_look_some {α : Type} {l : List (Nat × α)} {j : Nat} {o : α} (h : (j, o) ∈ l) : (look l j).isSome = true := by
  induction l with
  | nil => cases h
  | cons x r ih =>
    obtain ⟨u, d⟩ := x
    simp only [look]
    split
    · rfl
    · rename_i hne
      rcases List.mem_cons.1 h with e | h
      · cases e; exact (hne rfl).elim
      · exact ih h
structure ObsLe (s : St) (H : List (Nat × Ob)) (ρ : Nat → Nat) (nw : Nat → Bool) : Prop where
  obs : ∀ j o', look H j = some o' → (nw j = false ∧ ∃ o, s.obj (ρ j) = some o ∧ ObLe s ρ nw (keptBy ρ nw H) o o') ∨ (nw j = true ∧ ∃ m esz g, o' = .row m false esz 0 g [])
  inj : ∀ j j', (look H j).isSome = true → (look H j').isSome = true → nw j = false → nw j' = false → ρ j = ρ j' → j = j'
structure StLe (s s' : St) (ρ : Nat → Nat) (nw : Nat → Bool) : Prop where
  env : ∀ t, AvLe s ρ nw (keptBy ρ nw s'.H) (s.get t) (s'.get t)
  obs : ObsLe s s'.H ρ nw
  pin : ∀ j, hbs ≤ j → nw j = false ∧ ρ j = j
section
variable {cx : Cx} {ι : Nat → Value} {ow : Nat → Option Nat} {s : St} {a : Act} {w : World} {H : List (Nat × Ob)} {ρ : Nat → Nat} {nw : Nat → Bool}
theorem ow_some {b j : Nat} (h : owOf ow ρ nw H b = some j) : ∃ i, ow b = some i ∧ invOf ρ nw H i = some j := by
  unfold owOf at h
  rw [Option.bind_eq_some_iff] at h
  exact h
theorem ow_none {b : Nat} (h : ow b = none) : owOf ow ρ nw H b = none := by simp [owOf, h]
theorem ow_kept (hinj : ∀ j j', (look H j).isSome = true → (look H j').isSome = true → nw j = false → nw j' = false → ρ j = ρ j' → j = j') {b j : Nat} (h : ow b = some (ρ j)) (hj : (look H j).isSome = true) (hn : nw j = false) : owOf ow ρ nw H b = some j := by
  unfold owOf
  rw [h, Option.bind_some]
  cases hv : invOf ρ nw H (ρ j) with
  | none =>
    unfold invOf at hv
    rw [Option.map_eq_none_iff, List.find?_eq_none] at hv
    cases hl : look H j with
    | none => rw [hl] at hj; cases hj
    | some o =>
      have := hv _ (look_mem hl)
      simp [hn] at this
  | some j' =>
    obtain ⟨⟨o, h1⟩, h2, h3⟩ := invOf_spec hv
    rw [hinj j' j (mem_look_some h1) hj h2 hn h3]
theorem zF_ow {b : Nat} (h : zF cx ow b) : zF cx (owOf ow ρ nw H) b := ⟨ow_none h.1, h.2⟩
theorem zZ_ow {b : Nat} (h : zZ cx ow b) : zZ cx (owOf ow ρ nw H) b := ⟨ow_none h.1, h.2⟩
theorem AvLe.rep (hm : Models cx ι ow s a w) : ∀ c d, AvLe s ρ nw (keptBy ρ nw H) c d → ∀ x, RepA (zF cx ow) (zZ cx ow) ι w c x →
    RepA (zF cx (owOf ow ρ nw H)) (zZ cx (owOf ow ρ nw H)) (nameOf ι ρ nw) w d x := by
  have hnew : ∀ i, ¬ keptBy ρ nw H i → ∀ b, ow b = some i → zF cx (owOf ow ρ nw H) b := by
    intro i hk b hb
    refine ⟨?_, (hm.dom b i hb).2⟩
    cases h : owOf ow ρ nw H b with
    | none => rfl
    | some j =>
      obtain ⟨i', h1, h2⟩ := ow_some h
      rw [hb] at h1
      cases h1
      obtain ⟨⟨o, h3⟩, h4, h5⟩ := invOf_spec h2
      exact (hk ⟨_, h3, h4, h5⟩).elim
  intro c d hle
  induction hle with
  | any c => intro x _; exact .pf _ _ (.any x)
  | sc fr fr' x =>
    intro y hx
    rw [rep_v hx]
    cases fr'
    · exact .pf _ _ (.v _)
    · exact .pt _ _ (.v _)
  | own i hn =>
    intro x hx
    cases hx
    have : ι (ρ i) = nameOf ι ρ nw i := by simp [nameOf, hn]
    rw [this]
    exact .own i
  | nil fr i hn =>
    intro x hx
    have : x = nameOf ι ρ nw i := by rw [rep_v hx]; simp [nameOf, hn]
    rw [this]
    exact .own i
  | adr i off hn =>
    intro x hx
    cases hx with
    | adr _ _ b hb => exact .adr i off b (by simp [nameOf, hn, hb])
  | elt i esz k off hn =>
    intro x hx
    cases hx with
    | elt _ _ _ _ b n cap hb => exact .elt i esz k off b n cap (by simp [nameOf, hn, hb])
  | le fr c d hcd =>
    intro x hx
    cases hx with
    | pt _ _ hx => exact .pt _ _ ((hx.mono fun b hb _ => ⟨rfl, zF_ow hb⟩).le hcd)
    | pf _ _ hx => exact .pf _ _ ((hx.mono fun b hb _ => ⟨rfl, zZ_ow hb⟩).le hcd)
  | leo fr c d hcd =>
    intro x hx
    cases hx with
    | pt _ _ hx => exact .pf _ _ ((hx.mono fun b hb _ => ⟨rfl, zFZ (zF_ow hb)⟩).le hcd)
    | pf _ _ hx => exact .pf _ _ ((hx.mono fun b hb _ => ⟨rfl, zZ_ow hb⟩).le hcd)
  | frz i m nn esz n g d ho hk hmm hd =>
    intro x hx
    cases hx
    exact .pt _ _ (((hm.obs i _ ho).frozen (fun b hb _ => by
      cases m with
      | z => exact (hmm rfl).elim
      | f => exact zF_ow hb
      | u => exact hb.elim) (fun b hb _ => hnew i hk b hb)).le hd)
  | frz' i m nn esz n g d ho hk hd =>
    intro x hx
    cases hx
    exact .pf _ _ (((hm.obs i _ ho).frozen (fun b hb _ => by
      cases m with
      | z => exact zZ_ow hb
      | f => exact zFZ (zF_ow hb)
      | u => exact hb.elim) (fun b hb _ => zFZ (hnew i hk b hb))).le hd)
  | ag cs ds hl h ih =>
    intro x hx
    cases hx with
    | ag _ xs h1 h2 =>
      refine .ag ds xs (h1.trans hl) fun j d hj => ?_
      have hlt : j < cs.length := by rw [hl]; exact (List.getElem?_eq_some_iff.1 hj).1
      exact ih j _ d (List.getElem?_eq_getElem hlt) hj _ (h2 j _ (List.getElem?_eq_getElem hlt))
  | tp cs ds hl h ih =>
    intro x hx
    cases hx with
    | tp _ xs h1 h2 =>
      refine .tp ds xs (h1.trans hl) fun j d hj => ?_
      have hlt : j < cs.length := by rw [hl]; exact (List.getElem?_eq_some_iff.1 hj).1
      exact ih j _ d (List.getElem?_eq_getElem hlt) hj _ (h2 j _ (List.getElem?_eq_getElem hlt))
  | cl f es bs cs ds hl hl2 h h' ih ih' =>
    intro x hx
    cases hx with
    | cl _ _ _ fs xs h1 h2 h3 h4 =>
      refine .cl f bs ds fs xs (h1.trans hl) (h2.trans hl2) (fun j d hj => ?_) (fun j d hj => ?_)
      · have hlt : j < es.length := by rw [hl]; exact (List.getElem?_eq_some_iff.1 hj).1
        exact ih j _ d (List.getElem?_eq_getElem hlt) hj _ (h3 j _ (List.getElem?_eq_getElem hlt))
      · have hlt : j < cs.length := by rw [hl2]; exact (List.getElem?_eq_some_iff.1 hj).1
        exact ih' j _ d (List.getElem?_eq_getElem hlt) hj _ (h4 j _ (List.getElem?_eq_getElem hlt))
theorem hole_map (ρ : Nat → Nat) : ∀ (hl : List (Nat × Nat × Nat)) (a b : Nat), hole (hl.map fun x => (x.1, x.2.1, ρ x.2.2)) a b = (hole hl a b).map ρ
  | [], a, b => rfl
  | (k, j, d) :: r, a, b => by
    simp only [List.map_cons, hole]
    split
    · rfl
    · exact hole_map ρ r a b
theorem hole_in : ∀ {hl : List (Nat × Nat × Nat)} {a b d : Nat}, hole hl a b = some d → (a, b, d) ∈ hl
  | (k, j, d) :: r, a, b, e, h => by
    simp only [hole] at h
    split at h
    · rename_i hab; cases h; rw [hab.1, hab.2]; exact List.mem_cons_self
    · exact List.mem_cons_of_mem _ (hole_in h)
theorem ObLe.rep (hm : Models cx ι ow s a w) (hinj : ∀ j j', (look H j).isSome = true → (look H j').isSome = true → nw j = false → nw j' = false → ρ j = ρ j' → j = j')
    {j : Nat} {o o' : Ob} (hj : look H j = some o') (hn : nw j = false) (ho : s.obj (ρ j) = some o) (hle : ObLe s ρ nw (keptBy ρ nw H) o o') :
    ObOk (zF cx (owOf ow ρ nw H)) (zZ cx (owOf ow ρ nw H)) (fun b => owOf ow ρ nw H b = some j) (nameOf ι ρ nw) w (nameOf ι ρ nw j) o' := by
  have hob := hm.obs (ρ j) o ho
  have hname : nameOf ι ρ nw j = ι (ρ j) := by simp [nameOf, hn]
  have hS : ∀ b, ow b = some (ρ j) → owOf ow ρ nw H b = some j := fun b hb => ow_kept hinj hb (by rw [hj]; rfl) hn
  rw [hname]
  cases hle with
  | box cs ds hl h =>
    obtain ⟨b, c, t, h1, h2, h3, h4, h5⟩ := hob
    refine ⟨b, c, t, h1, hS b h2, h3, h4.trans hl, fun k d hk => ?_⟩
    have hlt : k < cs.length := by rw [hl]; exact (List.getElem?_eq_some_iff.1 hk).1
    exact AvLe.rep hm _ _ (h k _ d (List.getElem?_eq_getElem hlt) hk) _ (h5 k _ (List.getElem?_eq_getElem hlt))
  | map f f' n n' e h =>
    obtain ⟨b, es, clock, h1, h2, h3, h4⟩ := hob
    subst e
    have : f = f' := funext h
    subst this
    exact ⟨b, es, clock, h1, hS b h2, h3, h4⟩
  | row m m' nn nn' esz n n' g g' hl hl' hmm hnn e hh hw h =>
    subst e
    rcases hob with ⟨h1, ⟨h2, h3⟩ | h2⟩ | ⟨b, cap, c, t, q, h1, h2, h3, h4, h5, hq, h6⟩
    · refine .inl ⟨h1, .inl ⟨?_, h3⟩⟩
      cases nn' with
      | false => rfl
      | true => rw [hnn rfl] at h2; cases h2
    · exact .inl ⟨h1, .inr h2⟩
    · refine .inr ⟨b, cap, c, t, q, h1, hS b h2, h3, h4, h5, hq, fun p r hp hr => ?_⟩
      have h7 := h6 p r hp hr
      have h8 := h p r hp hr
      cases m <;> cases m' <;> simp only [Mode.ok, Bool.false_eq_true] at hmm <;> simp only [EltOk] at h7 ⊢
      · exact (h7.mono fun k hk _ => ⟨rfl, zZ_ow hk⟩).le h8
      · exact (h7.mono fun k hk _ => ⟨rfl, zFZ (zF_ow hk)⟩).le h8
      · exact (h7.mono fun k hk _ => ⟨rfl, zF_ow hk⟩).le h8
      · rw [hh, hole_map] at h7
        cases hd : hole hl' p r with
        | some d =>
          simp only [hd, Option.map_some] at h7
          have := hw _ (hole_in hd)
          simp [nameOf, this, h7]
        | none =>
          simp only [hd, Option.map_none] at h7
          exact (h7.mono fun k hk _ => ⟨rfl, hS k hk.1, hk.2⟩).le h8
theorem ObsLe.rep (hm : Models cx ι ow s a w) (h : ObsLe s H ρ nw) {j : Nat} {o' : Ob} (hj : look H j = some o') :
    ObOk (zF cx (owOf ow ρ nw H)) (zZ cx (owOf ow ρ nw H)) (fun b => owOf ow ρ nw H b = some j) (nameOf ι ρ nw) w (nameOf ι ρ nw j) o' := by
  rcases h.obs j o' hj with ⟨hn, o, ho, hle⟩ | ⟨hn, m, esz, g, rfl⟩
  · exact ObLe.rep hm h.inj hj hn ho hle
  · exact .inl ⟨rfl, .inl ⟨rfl, by simp [nameOf, hn]⟩⟩
theorem ow_dom (hm : Models cx ι ow s a w) {b j : Nat} (h : owOf ow ρ nw H b = some j) : (look H j).isSome = true ∧ (cx.D0 b ∨ cx.w0.heap.size ≤ b) := by
  obtain ⟨i, h1, h2⟩ := ow_some h
  obtain ⟨⟨o, h3⟩, _⟩ := invOf_spec h2
  exact ⟨mem_look_some h3, (hm.dom b i h1).2⟩
theorem Models.weak (hm : Models cx ι ow s a w) {s' : St} (h : StLe s s' ρ nw) : Models cx (nameOf ι ρ nw) (owOf ow ρ nw s'.H) s' a w where
  defers := hm.defers
  size := hm.size
  env := fun t => AvLe.rep hm _ _ (h.env t) _ (hm.env t)
  obs := fun i o ho => h.obs.rep hm ho
  dom := fun b i hb => ow_dom hm hb
  ext := hm.ext
  gl := fun g c hg => (hm.gl g c hg).mono fun b hb _ => ⟨rfl, zZ_ow hb⟩
  kp := fun i hi => by
    obtain ⟨h1, h2⟩ := h.pin i hi
    simp [nameOf, h1, h2, hm.kp i hi]
theorem StLe.wk {s s' : St} (h : StLe s s' ρ nw) : Wk s s' := fun cx ι ow a w hm => ⟨_, _, hm.weak h⟩
end
end Go.Gw
namespace Go.Gw
open Go
set_option linter.unusedVariables false
set_option linter.unusedSimpArgs false
inductive Ir where
  | skip
  | reg (drop : List Nat) (ops : List IOpr)
  | dreg (drop : List Nat) (bits : List Nat) (allocs : List (Nat × Nat)) (ops : List IOpr)
  | seq (a b : Ir)
  | cond (c : Operand) (a b : Ir)
  | block (id : Nat) (b : Ir)
  | loop (b : Ir)
  | exit (id : Nat)
  | ret
def idleObs (s : St) : List (Nat × Ob) → List Nat
  | [] => []
  | (i, _) :: r => match s.noidB i with
    | true => i :: idleObs s r
    | false => idleObs s r
def St.tidy (s : St) (l : List Nat) : St :=
  let s' := (s.drop l).settle
  s'.dels (idleObs s' s'.H)
theorem Wk.tidy (s : St) (l : List Nat) : Wk s (s.tidy l) := (Wk.drop s l).trans ((Wk.settle _).trans (Wk.dels _ _))
def LoopQ {σ : Type} (st : σ → St) (inv : σ → Prop) (μ : σ → Nat) (x : σ) (Q : Exit → St → Prop) : Exit → St → Prop
  | .normal, s' => ∃ x', inv x' ∧ μ x' < μ x ∧ Wk s' (st x')
  | .exit j, s' => Q (.exit j) s'
  | .ret, s' => Q .ret s'
  | .goto l, s' => Q (.goto l) s'
  | .panic c, s' => Q (.panic c) s'
  | .outgrown, s' => Q .outgrown s'
def LoopWp (body : St → (Exit → St → Prop) → Prop) (s : St) (Q : Exit → St → Prop) : Prop :=
  ∃ (σ : Type) (st : σ → St) (inv : σ → Prop) (μ : σ → Nat) (x0 : σ), inv x0 ∧ Wk s (st x0) ∧
    ∀ x, inv x → body (st x) (LoopQ st inv μ x Q)
def SWI (P : Program) (G : List (Nat × PV)) : Ir → St → (Exit → St → Prop) → Prop
  | .skip, s, Q => Q .normal s
  | .reg drop ops, s, Q => AOps P G ops s (fun s' => Q .normal (s'.tidy drop))
  | .dreg drop bits allocs ops, s, Q => (allocs.all fun x => s.noidB x.2) = true ∧ AOpsD P G bits allocs 0 ops [] s (fun s' => Q .normal (s'.tidy drop))
  | .seq a b, s, Q => SWI P G a s (fun e s' => match e with | .normal => ∃ s'', Wk s' s'' ∧ SWI P G b s'' Q | e => Q e s')
  | .cond c x y, s, Q => match opd G s c with
    | .p _ (.v (.bool b)) => (b = true → ∃ s', Wk s s' ∧ SWI P G x s' Q) ∧ (b = false → ∃ s', Wk s s' ∧ SWI P G y s' Q)
    | _ => False
  | .block id b, s, Q => SWI P G b s (fun e s' => match e with
    | .exit j => if j = id then Q .normal s' else Q (.exit j) s'
    | e => Q e s')
  | .loop b, s, Q => LoopWp (fun s Q => ∃ s', Wk s s' ∧ SWI P G b s' Q) s Q
  | .exit id, s, Q => Q (.exit id) s
  | .ret, s, Q => Q .ret s
def comp (P : Program) (n : Nat) (drop : List Nat → List Nat) : Code → Option Ir
  | .skip => some .skip
  | .region id ops draw => match ops.toList.mapM (compOper P n ops) with
    | none => none
    | some l => if draw then
        if P.follows .mixedOrders && drawOk ops l then some (.dreg (drop (l.filterMap IOpr.d)) (ancs [] ops.toList) (allocsOf 0 l) l) else none
      else some (.reg (drop (l.filterMap IOpr.d)) l)
  | .seq a b => match comp P n drop a, comp P n drop b with
    | some x, some y => some (.seq x y)
    | _, _ => none
  | .cond c a b => match comp P n drop a, comp P n drop b with
    | some x, some y => some (.cond c x y)
    | _, _ => none
  | .block id b => (comp P n drop b).map (.block id)
  | .loop b => (comp P n drop b).map .loop
  | .exit id => some (.exit id)
  | .ret => some .ret
  | _ => none
open Classical in
noncomputable def leastOf (p : Nat → Prop) : Nat := if h : ∃ k, p k ∧ ∀ j, p j → k ≤ j then h.choose else 0
theorem leastOf_spec {p : Nat → Prop} (h : ∃ k, p k) : p (leastOf p) ∧ ∀ j, p j → leastOf p ≤ j := by
  have h' : ∃ k, p k ∧ ∀ j, p j → k ≤ j := by
    obtain ⟨k, hk⟩ := h
    induction k using Nat.strongRecOn with
    | _ k ih =>
      by_cases hm : ∃ j, j < k ∧ p j
      · obtain ⟨j, hj, hp⟩ := hm; exact ih j hj hp
      · exact ⟨k, hk, fun j hj => by
          rcases Nat.lt_or_ge j k with hlt | hge
          · exact (hm ⟨j, hlt, hj⟩).elim
          · exact hge⟩
  unfold leastOf
  rw [dif_pos h']
  exact h'.choose_spec
theorem swi_sound {P : Program} {cx : Cx} {drop : List Nat → List Nat} : ∀ (c : Code) (ir : Ir), comp P cx.n drop c = some ir →
    ∀ (s : St) (Q : Exit → St → Prop), SWI P cx.G ir s Q → ∀ ι ow a w, Models cx ι ow s a w →
      c.wp P (fun e a w => ∃ ι ow s', Models cx ι ow s' a w ∧ Q e s') a w := by
  intro c
  induction c with
  | skip => intro ir hc s Q h ι ow a w hm; cases hc; exact wp_skip ⟨ι, ow, s, hm, h⟩
  | region id ops draw =>
    intro ir hc s Q h ι ow a w hm
    simp only [comp] at hc
    split at hc
    · cases hc
    · rename_i l hl
      cases draw with
      | true =>
        simp only [if_true] at hc
        split at hc
        · rename_i hok
          cases hc
          simp only [Bool.and_eq_true] at hok
          simp only [SWI] at h
          exact wp_draw (K := fun s' => Q .normal (s'.tidy (drop (l.filterMap IOpr.d)))) hok.1 hl hok.2
            (fun ι ow s a w hk hm => by obtain ⟨ι', ow', hm'⟩ := Wk.tidy s (drop (l.filterMap IOpr.d)) cx ι ow a w hm; exact ⟨ι', ow', _, hm', hk⟩) h.1 h.2 hm
        · cases hc
      | false =>
        simp only [Bool.false_eq_true, if_false, Option.some.injEq] at hc
        subst hc
        refine wp_region ?_
        rw [List.range_eq_range']
        have := wpOps_of (P := P) (cx := cx) (ops := ops) (Q := fun e a w => ∃ ι ow s', Models cx ι ow s' a w ∧ Q e s') (K := fun s' => Q .normal (s'.tidy (drop (l.filterMap IOpr.d))))
          (fun ι ow s a w hk hm => by obtain ⟨ι', ow', hm'⟩ := Wk.tidy s (drop (l.filterMap IOpr.d)) cx ι ow a w hm; exact ⟨ι', ow', _, hm', hk⟩) ops.toList l 0 (fun j => by simp) hl ι ow s a w h hm
        simpa using this
  | seq x y ihx ihy =>
    intro ir hc s Q h ι ow a w hm
    simp only [comp] at hc
    split at hc
    · rename_i ix iy hx hy
      cases hc
      refine wp_seq (wp_mono (ihx ix hx s _ h ι ow a w hm) fun e a' w' ⟨ι', ow', s', hm', hq⟩ => ?_)
      cases e with
      | normal =>
        obtain ⟨s'', hwk, hq⟩ := hq
        obtain ⟨ι'', ow'', hm''⟩ := hwk cx ι' ow' a' w' hm'
        exact ihy iy hy s'' Q hq ι'' ow'' a' w' hm''
      | exit id => exact ⟨ι', ow', s', hm', hq⟩
      | goto l => exact ⟨ι', ow', s', hm', hq⟩
      | ret => exact ⟨ι', ow', s', hm', hq⟩
      | panic ch => exact ⟨ι', ow', s', hm', hq⟩
      | outgrown => exact ⟨ι', ow', s', hm', hq⟩
    · cases hc
  | cond c x y ihx ihy =>
    intro ir hc s Q h ι ow a w hm
    simp only [comp] at hc
    split at hc
    · rename_i ix iy hx hy
      cases hc
      simp only [SWI] at h
      split at h
      · rename_i fr b hb
        have he := eval_rep hm c
        rw [hb] at he
        have he := rep_v he
        refine wp_cond_split he (fun ht => ?_) (fun ht => ?_)
        · obtain ⟨s', h1, h2⟩ := h.1 ht
          obtain ⟨ι', ow', hm'⟩ := h1 cx ι ow a w hm
          exact ihx ix hx s' Q h2 ι' ow' a w hm'
        · obtain ⟨s', h1, h2⟩ := h.2 ht
          obtain ⟨ι', ow', hm'⟩ := h1 cx ι ow a w hm
          exact ihy iy hy s' Q h2 ι' ow' a w hm'
      · exact h.elim
    · cases hc
  | block id x ih =>
    intro ir hc s Q h ι ow a w hm
    simp only [comp, Option.map_eq_some_iff] at hc
    obtain ⟨ix, hx, rfl⟩ := hc
    refine wp_block (wp_mono (ih ix hx s _ h ι ow a w hm) fun e a' w' ⟨ι', ow', s', hm', hq⟩ => ?_)
    cases e with
    | exit j =>
      simp only [Exit.inBlock]
      split
      · rename_i he; simp only [he, if_true] at hq; exact ⟨ι', ow', s', hm', hq⟩
      · rename_i he; simp only [he, if_false] at hq; exact ⟨ι', ow', s', hm', hq⟩
    | normal => exact ⟨ι', ow', s', hm', hq⟩
    | goto l => exact ⟨ι', ow', s', hm', hq⟩
    | ret => exact ⟨ι', ow', s', hm', hq⟩
    | panic ch => exact ⟨ι', ow', s', hm', hq⟩
    | outgrown => exact ⟨ι', ow', s', hm', hq⟩
  | loop x ih =>
    intro ir hc s Q h ι ow a w hm
    simp only [comp, Option.map_eq_some_iff] at hc
    obtain ⟨ix, hx, rfl⟩ := hc
    simp only [SWI] at h
    obtain ⟨σ, st, inv, μ, x0, hx0, hle0, hround⟩ := h
    let p : Act → World → Nat → Prop := fun a w k => ∃ x ι ow, inv x ∧ Models cx ι ow (st x) a w ∧ μ x = k
    obtain ⟨ι0, ow0, hm0⟩ := hle0 cx ι ow a w hm
    refine wp_loop (I := fun a w => ∃ k, p a w k) (μ := fun a w => leastOf (p a w)) ⟨_, x0, _, _, hx0, hm0, rfl⟩ ?_
    intro a w hI
    obtain ⟨⟨y, ι', ow', hy, hmy, hk⟩, hmin⟩ := leastOf_spec hI
    obtain ⟨s1, hw1, hr1⟩ := hround y hy
    obtain ⟨ι1, ow1, hm1⟩ := hw1 cx ι' ow' a w hmy
    refine wp_mono (ih ix hx s1 _ hr1 ι1 ow1 a w hm1) fun e a' w' ⟨ι'', ow'', s', hm', hq⟩ => ?_
    cases e with
    | normal =>
      obtain ⟨x', hx', hlt, hle⟩ := hq
      obtain ⟨ι3, ow3, hm3⟩ := hle cx ι'' ow'' a' w' hm'
      have hp : p a' w' (μ x') := ⟨x', _, _, hx', hm3, rfl⟩
      refine ⟨⟨_, hp⟩, ?_⟩
      have := (leastOf_spec ⟨_, hp⟩).2 _ hp
      show leastOf (p a' w') < leastOf (p a w)
      omega
    | exit j => exact ⟨ι'', ow'', s', hm', hq⟩
    | goto l => exact ⟨ι'', ow'', s', hm', hq⟩
    | ret => exact ⟨ι'', ow'', s', hm', hq⟩
    | panic ch => exact ⟨ι'', ow'', s', hm', hq⟩
    | outgrown => exact ⟨ι'', ow'', s', hm', hq⟩
  | exit id => intro ir hc s Q h ι ow a w hm; cases hc; exact wp_exit ⟨ι, ow, s, hm, h⟩
  | ret => intro ir hc s Q h ι ow a w hm; cases hc; exact wp_ret ⟨ι, ow, s, hm, h⟩
  | _ => intro ir hc; simp [comp] at hc
end Go.Gw
namespace Go.Gw
open Go
set_option linter.unusedVariables false
set_option linter.unusedSimpArgs false
inductive RI where
  | tmp (t : Nat)
  | cell (agg : Bool) (n t : Nat)
def resI (P : Program) : ResultVar → Option RI
  | .tmp t => some (.tmp t)
  | .cell a t => match P.underlying t, szOf P t with
    | some d, some n => some (.cell (aggD d) n a)
    | _, _ => none
def resAV (s : St) : RI → Option AV
  | .tmp t => some (s.get t)
  | .cell agg n a => match s.get a with
    | .adr i 0 => match s.obj i with
      | some (.box cs) => if n ≤ cs.length then (if agg then some (.ag (cs.take n)) else if n = 1 then some (cs.getD 0 default) else none) else none
      | _ => none
    | _ => none
def tup : List AV → AV
  | [c] => c
  | cs => .tp cs
def resOf (rl : List RI) (s : St) : Option AV :=
  match rl.mapM (resAV s) with
  | some cs => some (tup cs)
  | none => none
def Wr (H0 : List (Nat × Ob)) (s : St) (c : AV) (r : AV) (H' : List (Nat × Ob)) : Prop :=
  ∀ (cx : Cx) (ι : Nat → Value) (ow : Nat → Option Nat) (a : Act) (w : World) (x : Value), Models cx ι ow s a w → RepA (zF cx ow) (zZ cx ow) ι w c x →
    ∃ ι' ow', RepA (zF cx ow') (zZ cx ow') ι' w r x ∧ (∀ i o, look H' i = some o → ObOk (zF cx ow') (zZ cx ow') (fun b => ow' b = some i) ι' w (ι' i) o) ∧
      (∀ b i, ow' b = some i → (look H' i).isSome = true ∧ (cx.D0 b ∨ cx.w0.heap.size ≤ b)) ∧
      (∀ i, (look H0 i).isSome = true → (look H' i).isSome = true → ι' i = cx.ι0 (i + hbs))
theorem Wr.of {H0 : List (Nat × Ob)} {s : St} {c r : AV} {H' : List (Nat × Ob)} {ρ : Nat → Nat} {nw : Nat → Bool} (hv : AvLe s ρ nw (keptBy ρ nw H') c r) (ho : ObsLe s H' ρ nw)
    (hp : ∀ i, (look H0 i).isSome = true → (look H' i).isSome = true → nw i = false ∧ ρ i = i + hbs) : Wr H0 s c r H' := by
  intro cx ι ow a w x hm hx
  refine ⟨nameOf ι ρ nw, owOf ow ρ nw H', AvLe.rep hm _ _ hv x hx, fun i o h => ho.rep hm h, fun b i hb => ow_dom hm hb, fun i h1 h2 => ?_⟩
  obtain ⟨h3, h4⟩ := hp i h1 h2
  have := hm.kp (i + hbs) (Nat.le_add_left _ _)
  simp [nameOf, h3, h4, this]
def ResOk (rl : List RI) (H0 : List (Nat × Ob)) (s : St) (R : AV → List (Nat × Ob) → Prop) : Prop :=
  ∃ s' c, Wk s s' ∧ resOf rl s' = some c ∧ ∃ r H', Wr H0 s' c r H' ∧ R r H'
section
variable {P : Program} {cx : Cx} {ι : Nat → Value} {ow : Nat → Option Nat} {s : St} {a : Act} {w : World}
def runRes (tmps : Array Value) : ResultVar → Sem Value
  | .tmp t => pure (tmps.getD t undef)
  | .cell a t => do loadVar t (← asAddr (tmps.getD a undef))
theorem run_result (hm : Models cx ι ow s a w) {rv : ResultVar} {ri : RI} (h : resI P rv = some ri) {c : AV} (hc : resAV s ri = some c) :
    ∃ v, (runRes a.tmps rv).run P w = .ok v w ∧ RepA (zF cx ow) (zZ cx ow) ι w c v := by
  cases rv with
  | tmp t =>
    cases h
    cases hc
    exact ⟨_, rfl, hm.env t⟩
  | cell t ty =>
    simp only [resI] at h
    split at h
    · rename_i td n ht hn
      cases h
      simp only [resAV] at hc
      have he := hm.env t
      split at hc
      · rename_i i hi
        split at hc
        · rename_i cs ho
          rw [hi] at he
          generalize hx : a.tmps.getD t undef = x at he
          cases he with
          | adr _ _ b hb =>
            obtain ⟨b', xs, tt, h4, h4', h5, h6, h7⟩ := hm.obs i _ ho
            rw [hb] at h4
            simp only [Value.pointer.injEq, Option.some.injEq, Addr.mk.injEq] at h4
            obtain ⟨rfl, _⟩ := h4
            split at hc
            · rename_i hle
              have hcl : ∀ j, j < n → w.cell? ⟨b, 0 + j, none⟩ = some (xs.getD j undef) := fun j hj => by rw [Nat.zero_add]; exact cell_of_row h5 (by omega)
              have hrun : ∀ v, (loadVar ty ⟨b, 0, none⟩).run P w = .ok v w → (runRes a.tmps (.cell t ty)).run P w = .ok v w := by
                intro v hv
                simp [runRes, hx, asAddr, hv]
              cases hd : aggD td with
              | true =>
                simp only [hd, if_true, Option.some.injEq] at hc
                subst hc
                have hv := run_loadVar ht hn (fun j => xs.getD j undef) hcl (fun e => by simp [hd] at e)
                simp only [hd, if_true] at hv
                refine ⟨_, hrun _ hv, .ag _ _ (by simp; omega) fun j e hj => ?_⟩
                rw [List.getElem?_take] at hj
                split at hj
                · rename_i hjn
                  rw [getD_range_map _ _ _ hjn]
                  exact h7 _ e hj
                · cases hj
              | false =>
                simp only [hd, Bool.false_eq_true, if_false] at hc
                split at hc
                · rename_i h1
                  subst h1
                  simp only [Option.some.injEq] at hc
                  subst hc
                  have hv := run_loadVar ht hn (fun j => xs.getD j undef) hcl (fun e => by omega)
                  simp only [hd, Bool.false_eq_true, if_false] at hv
                  refine ⟨_, hrun _ hv, h7 0 _ ?_⟩
                  simp [List.getD, List.getElem?_eq_getElem (show 0 < cs.length by omega)]
                · cases hc
            · cases hc
        · cases hc
      · cases hc
    · cases h
theorem run_mapM (f : ResultVar → Sem Value) (hf : ∀ rv, f rv = runRes a.tmps rv) (hm : Models cx ι ow s a w) : ∀ (rs : List ResultVar) (rl : List RI) (cs : List AV), rs.mapM (resI P) = some rl → rl.mapM (resAV s) = some cs →
    ∃ vs : List Value, (rs.mapM f).run P w = .ok vs w ∧ vs.length = cs.length ∧ ∀ j c, cs[j]? = some c → RepA (zF cx ow) (zZ cx ow) ι w c (vs.getD j undef)
  | [], rl, cs, h, hc => by
    simp at h
    subst h
    simp at hc
    subst hc
    exact ⟨[], by simp, rfl, fun j c h => by simp at h⟩
  | r :: rs, rl, cs, h, hc => by
    simp only [List.mapM_cons, Option.bind_eq_bind, Option.bind_eq_some_iff, Option.pure_def, Option.some.injEq] at h
    obtain ⟨ri, h1, rl', h2, rfl⟩ := h
    simp only [List.mapM_cons, Option.bind_eq_bind, Option.bind_eq_some_iff, Option.pure_def, Option.some.injEq] at hc
    obtain ⟨c, h3, cs', h4, rfl⟩ := hc
    obtain ⟨v, hv, hr⟩ := run_result hm h1 h3
    obtain ⟨vs, hvs, hl, hrs⟩ := run_mapM f hf hm rs rl' cs' h2 h4
    refine ⟨v :: vs, by simp [List.mapM_cons, hf, hv, hvs], by simp [hl], fun j c hj => ?_⟩
    cases j with
    | zero => simp at hj; subst hj; simpa using hr
    | succ j => simpa using hrs j c (by simpa using hj)
theorem run_results (hm : Models cx ι ow s a w) {fn : Func} {rl : List RI} {cs : List AV} (h : fn.results.toList.mapM (resI P) = some rl) (hc : rl.mapM (resAV s) = some cs) :
    ∃ v, (results fn a.tmps).run P w = .ok v w ∧ RepA (zF cx ow) (zZ cx ow) ι w (tup cs) v := by
  have key : ∀ (f : ResultVar → Sem Value), (∀ rv, f rv = runRes a.tmps rv) → ∃ vs : List Value, (fn.results.mapM f).run P w = .ok vs.toArray w ∧ vs.length = cs.length ∧ ∀ j c, cs[j]? = some c → RepA (zF cx ow) (zZ cx ow) ι w c (vs.getD j undef) := by
    intro f hf
    obtain ⟨vs, h1, h2⟩ := run_mapM f hf hm _ _ _ h hc
    refine ⟨vs, ?_, h2⟩
    rw [Array.mapM_eq_mapM_toList, Sem.run_map, h1]
    rfl
  have e : results fn a.tmps = (do let vs ← fn.results.mapM (runRes a.tmps); pure (if h : vs.size = 1 then vs[0] else .tuple vs)) := by
    unfold results
    congr 2
  rw [e, Sem.run_bind]
  obtain ⟨vs, h1, h2, h3⟩ := key _ (fun _ => rfl)
  rw [h1, Result.andThen_ok]
  match vs, cs, h2, h3 with
  | [v], [c], _, h3 => exact ⟨v, rfl, by simpa [tup] using h3 0 c rfl⟩
  | [], [], _, h3 => exact ⟨.tuple #[], rfl, .tp [] _ rfl fun j c h => by simp at h⟩
  | v1 :: v2 :: vs, c1 :: c2 :: cs, hl, h3 =>
    refine ⟨.tuple (v1 :: v2 :: vs).toArray, by simp, .tp _ _ (by simpa using hl) fun j c hj => ?_⟩
    have := h3 j c hj
    simpa [Array.getD_eq_getD_getElem?, List.getD] using this
end
def argEnv : Nat → List AV → List (Nat × AV)
  | _, [] => []
  | k, c :: cs => (k, c) :: argEnv (k + 1) cs
theorem look_argEnv : ∀ (cs : List AV) (k t : Nat), look (argEnv k cs) t = if t < k then none else cs[t - k]?
  | [], k, t => by simp [argEnv, look]
  | c :: cs, k, t => by
    simp only [argEnv, look]
    rw [look_argEnv cs (k + 1) t]
    by_cases h : k = t
    · subst h; simp
    · by_cases h2 : t < k
      · simp [h, h2]; omega
      · have : t - k = (t - (k + 1)) + 1 := by omega
        rw [if_neg h, if_neg h2, if_neg (by omega), this, List.getElem?_cons_succ]
def Post (rl : List RI) (H0 : List (Nat × Ob)) (R : AV → List (Nat × Ob) → Prop) : Exit → St → Prop
  | .normal, s => ResOk rl H0 s R
  | .ret, s => ResOk rl H0 s R
  | _, _ => False
def up (k : Nat) : Nat := k + hbs
def upH : List (Nat × Ob) → List (Nat × Ob)
  | [] => []
  | (k, o) :: r => (up k, o.ren up) :: upH r
def start (args : List AV) (H : List (Nat × Ob)) : St := ⟨argEnv 0 (AV.rens up args), upH H⟩
def noHoles : List (Nat × Ob) → Bool
  | [] => true
  | (_, .row _ _ _ _ _ hl) :: r => match hl with
    | [] => noHoles r
    | _ => false
  | (_, .box _) :: r => noHoles r
  | (_, .map _ _) :: r => noHoles r
theorem look_upH : ∀ {H : List (Nat × Ob)} {i : Nat} {o : Ob}, look (upH H) i = some o → ∃ k o', i = up k ∧ look H k = some o' ∧ o = o'.ren up
  | (k, o') :: r, i, o, h => by
    simp only [upH, look] at h
    split at h
    · rename_i e; cases h; exact ⟨k, o', e.symm, by simp [look], rfl⟩
    · rename_i e
      obtain ⟨k', o2, rfl, h2, rfl⟩ := look_upH h
      refine ⟨k', o2, rfl, ?_, rfl⟩
      simp only [look]
      rw [if_neg (fun h => e (by rw [h]))]
      exact h2
theorem look_upH_some : ∀ {H : List (Nat × Ob)} {k : Nat}, (look H k).isSome = true → (look (upH H) (up k)).isSome = true
  | (k', o') :: r, k, h => by
    simp only [upH, look] at h ⊢
    split
    · rfl
    · rename_i e
      rw [if_neg (fun h => e (by rw [h]))] at h
      exact look_upH_some h
theorem noHoles_spec : ∀ {H : List (Nat × Ob)} {k : Nat} {m : Mode} {nn : Bool} {e n : Nat} {g : Nat → Nat → PV} {hl : List (Nat × Nat × Nat)}, noHoles H = true → look H k = some (.row m nn e n g hl) → hl = []
  | (k', o) :: r, k, m, nn, e, n, g, hl, h, hk => by
    simp only [look] at hk
    split at hk
    · cases hk
      simp only [noHoles] at h
      split at h
      · rfl
      · cases h
    · cases o <;> simp only [noHoles] at h
      · exact noHoles_spec h hk
      · split at h
        · exact noHoles_spec h hk
        · cases h
      · exact noHoles_spec h hk
theorem PCall.of {P : Program} {G : List (Nat × PV)} {f : FuncId} {fn : Func} {code : Code} {args : List AV} {H : List (Nat × Ob)} {R : AV → List (Nat × Ob) → Prop} {drop : List Nat → List Nat} {ir : Ir} {rl : List RI}
    (hf : P.funcs[f]? = some fn) (hname : (fn.name == "runtime.NumGoroutine") = false) (hb : fn.body = some code) (hc : comp P fn.ntmps drop code = some ir)
    (hr : fn.results.toList.mapM (resI P) = some rl) (hn : args.length ≤ fn.ntmps) (hh : noHoles H = true)
    (h : ∃ s', Wk (start args H) s' ∧ SWI P G ir s' (Post rl H R)) : PCall P G f args H R := by
  refine ⟨⟨fn, hf, by simp [hb], hname⟩, fun w Z0 ι ow vs hl hdom hz hob ha hg => ?_⟩
  let cx : Cx := { w0 := w, Z0 := Z0, D0 := fun b => ∃ i, ow b = some i, n := fn.ntmps, G := G, ι0 := fun i => ι (i - hbs) }
  let ow0 : Nat → Option Nat := fun b => (ow b).map up
  let ι1 : Nat → Value := fun i => ι (i - hbs)
  have hι : ∀ k, ι1 (up k) = ι k := fun k => by simp [ι1, up]
  have hZ : ∀ b, Z0 b → zZ cx ow0 b := fun b hb => ⟨by simp [ow0, hz b hb], .inl hb⟩
  have hm : Models cx ι1 ow0 (start args H) { tmps := vs ++ Array.replicate (fn.ntmps - vs.size) undef, defers := [] } w := by
    refine ⟨rfl, by simp [cx]; omega, fun t => ?_, fun i o h => ?_, fun b i h => ?_, Ext.refl _ _, fun g c h => ?_, fun i hi => rfl⟩
    · simp only [start, St.get, look_argEnv, Nat.not_lt_zero, if_false, Nat.sub_zero, rens_get]
      cases hj : args[t]? with
      | none => exact .pf _ _ (.any _)
      | some c =>
        have hlt : t < vs.size := by rw [hl]; exact (List.getElem?_eq_some_iff.1 hj).1
        have : (vs ++ Array.replicate (fn.ntmps - vs.size) undef).getD t undef = vs.getD t undef := by
          rw [getD_append, if_pos hlt]
        show RepA _ _ _ _ (c.ren up) ((vs ++ Array.replicate (fn.ntmps - vs.size) undef).getD t undef)
        rw [this]
        exact (ha t c hj).ren (fun b hb _ => hb.elim) (fun b hb _ => hZ b hb) (fun k _ => hι k)
    · obtain ⟨k, o', rfl, hk, rfl⟩ := look_upH (H := H) h
      have h1 := hob k o' hk
      rw [hι k]
      have hS : ∀ b, ow b = some k → ow0 b = some (up k) := fun b hb => by simp [ow0, hb]
      cases o' with
      | box cs =>
        obtain ⟨b, c, t, e1, e2, e3, e4, e5⟩ := h1
        refine ⟨b, c, t, e1, hS b e2, e3, by rw [rens_length]; exact e4, fun j cc hj => ?_⟩
        rw [rens_get, Option.map_eq_some_iff] at hj
        obtain ⟨c', hj, rfl⟩ := hj
        exact (e5 j c' hj).ren (fun b hb _ => hb.elim) (fun b hb _ => hZ b hb) (fun k' _ => hι k')
      | row m nn esz n g hl' =>
        have := noHoles_spec hh hk
        subst this
        rcases h1 with e0 | ⟨b, cap, c, t, q, e1, e2, e3, e4, e5, eq, e6⟩
        · exact .inl e0
        · refine .inr ⟨b, cap, c, t, q, e1, hS b e2, e3, e4, e5, eq, fun p r hp hr => ?_⟩
          have e7 := e6 p r hp hr
          cases m <;> simp only [EltOk] at e7 ⊢
          · exact e7.mono fun b hb _ => ⟨rfl, hZ b hb⟩
          · exact e7.mono fun b hb _ => hb.elim
          · simp only [hole] at e7 ⊢
            exact e7.mono fun b hb _ => ⟨rfl, hS b hb.1, hb.2⟩
      | map f n =>
        obtain ⟨b, es, ck, e1, e2, e3⟩ := h1
        exact ⟨b, es, ck, e1, hS b e2, e3⟩
    · simp only [ow0, Option.map_eq_some_iff] at h
      obtain ⟨k, h1, rfl⟩ := h
      exact ⟨look_upH_some (hdom b k h1), .inl ⟨k, h1⟩⟩
    · exact (hg g c h).mono fun b hb _ => ⟨rfl, hZ b hb⟩
  obtain ⟨s1, hw1, h⟩ := h
  obtain ⟨ι4, ow4, hm4⟩ := hw1 cx _ _ _ w hm
  refine calls_of_wp hf hb (wp_mono (swi_sound (cx := cx) code ir hc _ _ h _ _ _ w hm4) ?_)
  rintro e a' w' ⟨ι', ow', s', hm', hq⟩
  have fin : ResOk rl H s' R → a'.defers = [] ∧ ∃ v, (results fn a'.tmps).run P w' = .ok v w' ∧ (∃ (x : Value) (r : AV) (H' : List (Nat × Ob)) (ι' : Nat → Value) (ow' : Nat → Option Nat), Ending.returned v = .returned x ∧ R r H' ∧
      (∀ i, (look H i).isSome = true → (look H' i).isSome = true → ι' i = ι i) ∧
      RepA (fun b => ow' b = none ∧ ((∃ i, ow b = some i) ∨ w.heap.size ≤ b)) (fun b => ow' b = none ∧ (Z0 b ∨ (∃ i, ow b = some i) ∨ w.heap.size ≤ b)) ι' w' r x ∧
      (∀ i o, look H' i = some o → ObOk (fun b => ow' b = none ∧ ((∃ i, ow b = some i) ∨ w.heap.size ≤ b)) (fun b => ow' b = none ∧ (Z0 b ∨ (∃ i, ow b = some i) ∨ w.heap.size ≤ b)) (fun b => ow' b = some i) ι' w' (ι' i) o) ∧
      (∀ b i, ow' b = some i → (look H' i).isSome = true ∧ ((∃ k, ow b = some k) ∨ w.heap.size ≤ b)) ∧ Ext (fun b => ∃ i, ow b = some i) w w') := by
    intro hres
    refine ⟨hm'.defers, ?_⟩
    obtain ⟨s2, c, hwk, hc, r, H', hwr, hR⟩ := hres
    obtain ⟨ι2, ow2, hm2⟩ := hwk cx ι' ow' a' w' hm'
    unfold resOf at hc
    split at hc
    · rename_i cs hcs
      cases hc
      obtain ⟨v, hv, hrep⟩ := run_results hm2 hr hcs
      obtain ⟨ι3, ow3, h1, h2, h3, h4⟩ := hwr cx ι2 ow2 a' w' v hm2 hrep
      exact ⟨v, hv, v, r, H', ι3, ow3, rfl, hR, fun i h5 h6 => by rw [h4 i h5 h6]; exact hι i, h1, h2, h3, hm2.ext⟩
    · cases hc
  cases e with
  | normal => exact fin hq
  | ret => exact fin hq
  | _ => exact hq.elim
theorem PCall.calls {P : Program} {G : List (Nat × PV)} {f : FuncId} {args : List AV} {v : Value} (h : PCall P G f args [] (fun r H => r = .p true (.v v) ∧ H = [])) {w : World} {vs : Array Value} (hl : vs.size = args.length)
    (ha : ∀ j c, args[j]? = some c → RepA (fun _ => False) (fun _ => True) (fun _ => undef) w c (vs.getD j undef))
    (hg : ∀ g c, look G g = some c → RepP (fun _ => True) w c (.pointer (some ⟨g, 0, none⟩))) :
    Calls P f vs w fun e w' => e = .returned v ∧ RowKit.Below w.heap.size w w' := by
  refine (h.2 w (fun _ => True) (fun _ => undef) (fun _ => none) vs hl (fun b i h => by cases h) (fun _ _ => rfl) (fun i o h => by simp [look] at h) ha hg).mono ?_
  rintro e w' ⟨x, r, H', ι', ow', rfl, ⟨rfl, rfl⟩, _, hr, _, _, hgr⟩
  exact ⟨by rw [rep_v hr], hgr.os, hgr.tape, hgr.output, hgr.size, fun b hb => hgr.block b hb (fun ⟨i, h⟩ => by cases h)⟩
end Go.Gw
