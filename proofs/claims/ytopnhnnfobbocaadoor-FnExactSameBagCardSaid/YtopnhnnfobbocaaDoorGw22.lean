/- What a state may be weakened to; with no condition. -/
import Derived.Test.YtopnhnnfobbocaaDoorGw21
namespace Go.Gw
open Go
set_option linter.unusedVariables false
set_option linter.unusedSimpArgs false

/-- What is known of s' is known of s. -/
def Wk (s s' : St) : Prop := ∀ (cx : Cx) (ι : Nat → Value) (ow : Nat → Option Nat) (a : Act) (w : World), Models cx ι ow s a w → ∃ ι' ow', Models cx ι' ow' s' a w

theorem Wk.refl (s : St) : Wk s s := fun _ ι ow _ _ h => ⟨ι, ow, h⟩
theorem Wk.trans {s s' s'' : St} (h : Wk s s') (h' : Wk s' s'') : Wk s s'' := fun cx ι ow a w hm => by
  obtain ⟨ι', ow', hm'⟩ := h cx ι ow a w hm
  exact h' cx ι' ow' a w hm'

theorem Wk.settle (s : St) : Wk s s.settle := fun cx ι ow a w hm => ⟨ι, hm.settle⟩
theorem Wk.drop (s : St) (l : List Nat) : Wk s (s.drop l) := fun cx ι ow a w hm => ⟨ι, ow, hm.drop l⟩
theorem Wk.dels (s : St) (l : List Nat) : Wk s (s.dels l) := fun cx ι ow a w hm => ⟨ι, _, hm.dels l⟩

/-! ### Rows of a lower mode -/
def Mode.low : Mode → Mode → Bool
  | .u, .f => true
  | .u, .z => true
  | .f, .z => true
  | _, _ => false

def St.lower (s : St) (i : Nat) (m' : Mode) : St := match s.obj i with
  | some (.row m nn esz n g []) => match m.low m' with
    | true => s.setOb i (.row m' nn esz n g [])
    | false => s
  | _ => s

theorem Models.lower {cx : Cx} {ι : Nat → Value} {ow : Nat → Option Nat} {s : St} {a : Act} {w : World} (hm : Models cx ι ow s a w) (i : Nat) (m' : Mode) : ∃ ow', Models cx ι ow' (s.lower i m') a w := by
  unfold St.lower
  split
  · rename_i m nn esz n g ho
    split
    · rename_i hlow
      have hob := hm.obs i _ ho
      rcases hob with he | ⟨b, cap, c, t, q, h1, h2, h3, h4, h5, hq, h6⟩
      · refine ⟨ow, hm.change rfl (fun _ => .inl rfl) (fun b hl ho => ⟨ho, rfl⟩) (fun b j hj => ⟨?_, (hm.dom b j hj).2⟩) rfl rfl rfl (Nat.le_refl _) (Nat.le_refl _) fun j o hj => ?_⟩
        · rw [St.obj_setOb]; split
          · rfl
          · exact (hm.dom b j hj).1
        · rw [St.obj_setOb] at hj
          split at hj
          · rename_i e; subst e; cases hj
            exact .inr fun _ _ _ => .inl he
          · exact .inl ⟨rfl, hj, fun b hl h => ⟨h, rfl⟩⟩
      · let ow' : Nat → Option Nat := fun k => if ow k = some i ∧ q k ≠ none then none else ow k
        have hsub : ∀ k j, ow' k = some j → ow k = some j := fun k j h => by
          simp only [ow'] at h
          split at h
          · cases h
          · exact h
        refine ⟨ow', hm.change rfl (fun _ => .inl rfl) (fun b hl ho => ⟨by simp [ow', ho], rfl⟩) (fun b j hj => ⟨?_, (hm.dom b j (hsub b j hj)).2⟩) rfl rfl rfl (Nat.le_refl _) (Nat.le_refl _) fun j o hj => ?_⟩
        · rw [St.obj_setOb]; split
          · rfl
          · exact (hm.dom b j (hsub b j hj)).1
        · rw [St.obj_setOb] at hj
          split at hj
          · rename_i e; subst e; cases hj
            refine .inr fun hF hZ _ => .inr ⟨b, cap, c, t, q, h1, by simp [ow', h2, hq], h3, h4, h5, hq, fun p r hp hr => ?_⟩
            have h7 := h6 p r hp hr
            have hfree : ∀ k, ow k = some i → q k = some (p, r) → zF cx ow' k := fun k h8 h9 => ⟨by simp [ow', h8, h9], (hm.dom k i h8).2⟩
            have hF' : ∀ k, zF cx ow k → zF cx ow' k := fun k hk => ⟨by simp [ow', hk.1], hk.2⟩
            cases m <;> cases m' <;> simp only [Mode.low, Bool.false_eq_true] at hlow <;> simp only [EltOk] at h7 ⊢
            · exact h7.mono fun k hk _ => ⟨rfl, zFZ (hF' k hk)⟩
            · simp only [hole] at h7
              exact h7.toP fun k hk _ => zFZ (hfree k hk.1 hk.2)
            · simp only [hole] at h7
              exact h7.toP fun k hk _ => hfree k hk.1 hk.2
          · rename_i hne
            refine .inl ⟨rfl, hj, fun k hl h => ⟨?_, rfl⟩⟩
            simp only [ow']
            rw [if_neg]
            · exact h
            · rintro ⟨e, _⟩
              rw [h] at e
              cases e
              exact hne rfl
    · exact ⟨ow, hm⟩
  · exact ⟨ow, hm⟩

def St.lowers (s : St) : List (Nat × Mode) → St
  | [] => s
  | (i, m) :: l => (s.lower i m).lowers l

theorem Wk.lowers : ∀ (l : List (Nat × Mode)) (s : St), Wk s (s.lowers l)
  | [], s => .refl s
  | (i, m) :: l, s => Wk.trans (fun cx ι ow a w hm => ⟨ι, hm.lower i m⟩) (Wk.lowers l (s.lower i m))

/-! ### Fewer slots and objects, other names -/
/-- Other names of the objects (ρ), rows that nobody writes any more; a nil slice as a row of its own ('nw'). -/
inductive AvLe (s : St) (ρ : Nat → Nat) (nw : Nat → Bool) (kept : Nat → Prop) : AV → AV → Prop
  | any (c) : AvLe s ρ nw kept c (.p false .any)
  | le (fr c d) (h : PV.Le c d) : AvLe s ρ nw kept (.p fr c) (.p fr d)
  | leo (fr c d) (h : PV.Le c d) : AvLe s ρ nw kept (.p fr c) (.p false d)
  | sc (fr fr' x) : AvLe s ρ nw kept (.p fr (.v x)) (.p fr' (.v x))
  | own (i) (hn : nw i = false) : AvLe s ρ nw kept (.own (ρ i)) (.own i)
  | nil (fr i) (hn : nw i = true) : AvLe s ρ nw kept (.p fr (.v (.slice none 0 0))) (.own i)
  | adr (i off) (hn : nw i = false) : AvLe s ρ nw kept (.adr (ρ i) off) (.adr i off)
  | elt (i esz k off) (hn : nw i = false) : AvLe s ρ nw kept (.elt (ρ i) esz k off) (.elt i esz k off)
  | frz (i m nn esz n g d) (h : s.obj i = some (.row m nn esz n g [])) (hk : ¬ kept i) (hm : m ≠ .z) (hd : PV.Le (.sl nn esz n g) d) : AvLe s ρ nw kept (.own i) (.p true d)
  | frz' (i m nn esz n g d) (h : s.obj i = some (.row m nn esz n g [])) (hk : ¬ kept i) (hd : PV.Le (.sl nn esz n g) d) : AvLe s ρ nw kept (.own i) (.p false d)
  | ag (cs ds : List AV) (hl : cs.length = ds.length) (h : ∀ (j : Nat) (c d : AV), cs[j]? = some c → ds[j]? = some d → AvLe s ρ nw kept c d) : AvLe s ρ nw kept (.ag cs) (.ag ds)
  | tp (cs ds : List AV) (hl : cs.length = ds.length) (h : ∀ (j : Nat) (c d : AV), cs[j]? = some c → ds[j]? = some d → AvLe s ρ nw kept c d) : AvLe s ρ nw kept (.tp cs) (.tp ds)
  | cl (f : FuncId) (es bs cs ds : List AV) (hl : es.length = bs.length) (hl2 : cs.length = ds.length)
      (h : ∀ (j : Nat) (c d : AV), es[j]? = some c → bs[j]? = some d → AvLe s ρ nw kept c d) (h2 : ∀ (j : Nat) (c d : AV), cs[j]? = some c → ds[j]? = some d → AvLe s ρ nw kept c d) : AvLe s ρ nw kept (.cl f es cs) (.cl f bs ds)

def Mode.ok : Mode → Mode → Bool
  | .u, .u => true
  | .f, .f => true
  | .z, .z => true
  | .f, .z => true
  | _, _ => false

inductive ObLe (s : St) (ρ : Nat → Nat) (nw : Nat → Bool) (kept : Nat → Prop) : Ob → Ob → Prop
  | box (cs ds : List AV) (hl : cs.length = ds.length) (h : ∀ (j : Nat) (c d : AV), cs[j]? = some c → ds[j]? = some d → AvLe s ρ nw kept c d) : ObLe s ρ nw kept (.box cs) (.box ds)
  | row (m m' nn nn' esz n n' g g' hl hl') (hm : m.ok m' = true) (hnn : nn' = true → nn = true) (e : n = n') (hh : hl = hl'.map fun x => (x.1, x.2.1, ρ x.2.2)) (hw : ∀ x, x ∈ hl' → nw x.2.2 = false)
      (h : ∀ i j, i < n → j < esz → PV.Le (g i j) (g' i j)) : ObLe s ρ nw kept (.row m nn esz n g hl) (.row m' nn' esz n' g' hl')
  | map (f f' n n') (e : n = n') (h : ∀ k, f k = f' k) : ObLe s ρ nw kept (.map f n) (.map f' n')

/-- The objects of s that s' keeps, under the names that ρ tells. -/
def keptBy (ρ : Nat → Nat) (nw : Nat → Bool) (H : List (Nat × Ob)) (i : Nat) : Prop := ∃ x ∈ H, nw x.1 = false ∧ ρ x.1 = i

def nameOf (ι : Nat → Value) (ρ : Nat → Nat) (nw : Nat → Bool) (j : Nat) : Value := if nw j then .slice none 0 0 else ι (ρ j)

def invOf (ρ : Nat → Nat) (nw : Nat → Bool) (H : List (Nat × Ob)) (i : Nat) : Option Nat := (H.find? fun x => !nw x.1 && ρ x.1 == i).map Prod.fst
def owOf (ow : Nat → Option Nat) (ρ : Nat → Nat) (nw : Nat → Bool) (H : List (Nat × Ob)) (b : Nat) : Option Nat := (ow b).bind (invOf ρ nw H)

theorem invOf_spec {ρ : Nat → Nat} {nw : Nat → Bool} {H : List (Nat × Ob)} {i j : Nat} (h : invOf ρ nw H i = some j) : (∃ o, (j, o) ∈ H) ∧ nw j = false ∧ ρ j = i := by
  unfold invOf at h
  rw [Option.map_eq_some_iff] at h
  obtain ⟨⟨j', o⟩, h1, rfl⟩ := h
  have h2 := List.find?_some h1
  simp only [Bool.and_eq_true, Bool.not_eq_true', beq_iff_eq] at h2
  exact ⟨⟨o, List.mem_of_find?_eq_some h1⟩, h2.1, h2.2⟩

theorem mem_look_some {α : Type} {l : List (Nat × α)} {j : Nat} {o : α} (h : (j, o) ∈ l) : (look l j).isSome = true := by
  induction l with
  | nil => cases h
  | cons x r ih =>
    obtain ⟨u, d⟩ := x
    simp only [look]
    split
    · rfl
    · rename_i hne
      rcases List.mem_cons.1 h with e | h
      · cases e; exact (hne rfl).elim
      · exact ih h

structure ObsLe (s : St) (H : List (Nat × Ob)) (ρ : Nat → Nat) (nw : Nat → Bool) : Prop where
  obs : ∀ j o', look H j = some o' → (nw j = false ∧ ∃ o, s.obj (ρ j) = some o ∧ ObLe s ρ nw (keptBy ρ nw H) o o') ∨ (nw j = true ∧ ∃ m esz g, o' = .row m false esz 0 g [])
  inj : ∀ j j', (look H j).isSome = true → (look H j').isSome = true → nw j = false → nw j' = false → ρ j = ρ j' → j = j'

structure StLe (s s' : St) (ρ : Nat → Nat) (nw : Nat → Bool) : Prop where
  env : ∀ t, AvLe s ρ nw (keptBy ρ nw s'.H) (s.get t) (s'.get t)
  obs : ObsLe s s'.H ρ nw
  pin : ∀ j, hbs ≤ j → nw j = false ∧ ρ j = j

section
variable {cx : Cx} {ι : Nat → Value} {ow : Nat → Option Nat} {s : St} {a : Act} {w : World} {H : List (Nat × Ob)} {ρ : Nat → Nat} {nw : Nat → Bool}

theorem ow_some {b j : Nat} (h : owOf ow ρ nw H b = some j) : ∃ i, ow b = some i ∧ invOf ρ nw H i = some j := by
  unfold owOf at h
  rw [Option.bind_eq_some_iff] at h
  exact h

theorem ow_none {b : Nat} (h : ow b = none) : owOf ow ρ nw H b = none := by simp [owOf, h]

theorem ow_kept (hinj : ∀ j j', (look H j).isSome = true → (look H j').isSome = true → nw j = false → nw j' = false → ρ j = ρ j' → j = j') {b j : Nat} (h : ow b = some (ρ j)) (hj : (look H j).isSome = true) (hn : nw j = false) : owOf ow ρ nw H b = some j := by
  unfold owOf
  rw [h, Option.bind_some]
  cases hv : invOf ρ nw H (ρ j) with
  | none =>
    unfold invOf at hv
    rw [Option.map_eq_none_iff, List.find?_eq_none] at hv
    cases hl : look H j with
    | none => rw [hl] at hj; cases hj
    | some o =>
      have := hv _ (look_mem hl)
      simp [hn] at this
  | some j' =>
    obtain ⟨⟨o, h1⟩, h2, h3⟩ := invOf_spec hv
    rw [hinj j' j (mem_look_some h1) hj h2 hn h3]

theorem zF_ow {b : Nat} (h : zF cx ow b) : zF cx (owOf ow ρ nw H) b := ⟨ow_none h.1, h.2⟩
theorem zZ_ow {b : Nat} (h : zZ cx ow b) : zZ cx (owOf ow ρ nw H) b := ⟨ow_none h.1, h.2⟩

theorem AvLe.rep (hm : Models cx ι ow s a w) : ∀ c d, AvLe s ρ nw (keptBy ρ nw H) c d → ∀ x, RepA (zF cx ow) (zZ cx ow) ι w c x →
    RepA (zF cx (owOf ow ρ nw H)) (zZ cx (owOf ow ρ nw H)) (nameOf ι ρ nw) w d x := by
  have hnew : ∀ i, ¬ keptBy ρ nw H i → ∀ b, ow b = some i → zF cx (owOf ow ρ nw H) b := by
    intro i hk b hb
    refine ⟨?_, (hm.dom b i hb).2⟩
    cases h : owOf ow ρ nw H b with
    | none => rfl
    | some j =>
      obtain ⟨i', h1, h2⟩ := ow_some h
      rw [hb] at h1
      cases h1
      obtain ⟨⟨o, h3⟩, h4, h5⟩ := invOf_spec h2
      exact (hk ⟨_, h3, h4, h5⟩).elim
  intro c d hle
  induction hle with
  | any c => intro x _; exact .pf _ _ (.any x)
  | sc fr fr' x =>
    intro y hx
    rw [rep_v hx]
    cases fr'
    · exact .pf _ _ (.v _)
    · exact .pt _ _ (.v _)
  | own i hn =>
    intro x hx
    cases hx
    have : ι (ρ i) = nameOf ι ρ nw i := by simp [nameOf, hn]
    rw [this]
    exact .own i
  | nil fr i hn =>
    intro x hx
    have : x = nameOf ι ρ nw i := by rw [rep_v hx]; simp [nameOf, hn]
    rw [this]
    exact .own i
  | adr i off hn =>
    intro x hx
    cases hx with
    | adr _ _ b hb => exact .adr i off b (by simp [nameOf, hn, hb])
  | elt i esz k off hn =>
    intro x hx
    cases hx with
    | elt _ _ _ _ b n cap hb => exact .elt i esz k off b n cap (by simp [nameOf, hn, hb])
  | le fr c d hcd =>
    intro x hx
    cases hx with
    | pt _ _ hx => exact .pt _ _ ((hx.mono fun b hb _ => ⟨rfl, zF_ow hb⟩).le hcd)
    | pf _ _ hx => exact .pf _ _ ((hx.mono fun b hb _ => ⟨rfl, zZ_ow hb⟩).le hcd)
  | leo fr c d hcd =>
    intro x hx
    cases hx with
    | pt _ _ hx => exact .pf _ _ ((hx.mono fun b hb _ => ⟨rfl, zFZ (zF_ow hb)⟩).le hcd)
    | pf _ _ hx => exact .pf _ _ ((hx.mono fun b hb _ => ⟨rfl, zZ_ow hb⟩).le hcd)
  | frz i m nn esz n g d ho hk hmm hd =>
    intro x hx
    cases hx
    exact .pt _ _ (((hm.obs i _ ho).frozen (fun b hb _ => by
      cases m with
      | z => exact (hmm rfl).elim
      | f => exact zF_ow hb
      | u => exact hb.elim) (fun b hb _ => hnew i hk b hb)).le hd)
  | frz' i m nn esz n g d ho hk hd =>
    intro x hx
    cases hx
    exact .pf _ _ (((hm.obs i _ ho).frozen (fun b hb _ => by
      cases m with
      | z => exact zZ_ow hb
      | f => exact zFZ (zF_ow hb)
      | u => exact hb.elim) (fun b hb _ => zFZ (hnew i hk b hb))).le hd)
  | ag cs ds hl h ih =>
    intro x hx
    cases hx with
    | ag _ xs h1 h2 =>
      refine .ag ds xs (h1.trans hl) fun j d hj => ?_
      have hlt : j < cs.length := by rw [hl]; exact (List.getElem?_eq_some_iff.1 hj).1
      exact ih j _ d (List.getElem?_eq_getElem hlt) hj _ (h2 j _ (List.getElem?_eq_getElem hlt))
  | tp cs ds hl h ih =>
    intro x hx
    cases hx with
    | tp _ xs h1 h2 =>
      refine .tp ds xs (h1.trans hl) fun j d hj => ?_
      have hlt : j < cs.length := by rw [hl]; exact (List.getElem?_eq_some_iff.1 hj).1
      exact ih j _ d (List.getElem?_eq_getElem hlt) hj _ (h2 j _ (List.getElem?_eq_getElem hlt))
  | cl f es bs cs ds hl hl2 h h' ih ih' =>
    intro x hx
    cases hx with
    | cl _ _ _ fs xs h1 h2 h3 h4 =>
      refine .cl f bs ds fs xs (h1.trans hl) (h2.trans hl2) (fun j d hj => ?_) (fun j d hj => ?_)
      · have hlt : j < es.length := by rw [hl]; exact (List.getElem?_eq_some_iff.1 hj).1
        exact ih j _ d (List.getElem?_eq_getElem hlt) hj _ (h3 j _ (List.getElem?_eq_getElem hlt))
      · have hlt : j < cs.length := by rw [hl2]; exact (List.getElem?_eq_some_iff.1 hj).1
        exact ih' j _ d (List.getElem?_eq_getElem hlt) hj _ (h4 j _ (List.getElem?_eq_getElem hlt))

theorem hole_map (ρ : Nat → Nat) : ∀ (hl : List (Nat × Nat × Nat)) (a b : Nat), hole (hl.map fun x => (x.1, x.2.1, ρ x.2.2)) a b = (hole hl a b).map ρ
  | [], a, b => rfl
  | (k, j, d) :: r, a, b => by
    simp only [List.map_cons, hole]
    split
    · rfl
    · exact hole_map ρ r a b

theorem hole_in : ∀ {hl : List (Nat × Nat × Nat)} {a b d : Nat}, hole hl a b = some d → (a, b, d) ∈ hl
  | (k, j, d) :: r, a, b, e, h => by
    simp only [hole] at h
    split at h
    · rename_i hab; cases h; rw [hab.1, hab.2]; exact List.mem_cons_self
    · exact List.mem_cons_of_mem _ (hole_in h)

theorem ObLe.rep (hm : Models cx ι ow s a w) (hinj : ∀ j j', (look H j).isSome = true → (look H j').isSome = true → nw j = false → nw j' = false → ρ j = ρ j' → j = j')
    {j : Nat} {o o' : Ob} (hj : look H j = some o') (hn : nw j = false) (ho : s.obj (ρ j) = some o) (hle : ObLe s ρ nw (keptBy ρ nw H) o o') :
    ObOk (zF cx (owOf ow ρ nw H)) (zZ cx (owOf ow ρ nw H)) (fun b => owOf ow ρ nw H b = some j) (nameOf ι ρ nw) w (nameOf ι ρ nw j) o' := by
  have hob := hm.obs (ρ j) o ho
  have hname : nameOf ι ρ nw j = ι (ρ j) := by simp [nameOf, hn]
  have hS : ∀ b, ow b = some (ρ j) → owOf ow ρ nw H b = some j := fun b hb => ow_kept hinj hb (by rw [hj]; rfl) hn
  rw [hname]
  cases hle with
  | box cs ds hl h =>
    obtain ⟨b, c, t, h1, h2, h3, h4, h5⟩ := hob
    refine ⟨b, c, t, h1, hS b h2, h3, h4.trans hl, fun k d hk => ?_⟩
    have hlt : k < cs.length := by rw [hl]; exact (List.getElem?_eq_some_iff.1 hk).1
    exact AvLe.rep hm _ _ (h k _ d (List.getElem?_eq_getElem hlt) hk) _ (h5 k _ (List.getElem?_eq_getElem hlt))
  | map f f' n n' e h =>
    obtain ⟨b, es, clock, h1, h2, h3, h4⟩ := hob
    subst e
    have : f = f' := funext h
    subst this
    exact ⟨b, es, clock, h1, hS b h2, h3, h4⟩
  | row m m' nn nn' esz n n' g g' hl hl' hmm hnn e hh hw h =>
    subst e
    rcases hob with ⟨h1, ⟨h2, h3⟩ | h2⟩ | ⟨b, cap, c, t, q, h1, h2, h3, h4, h5, hq, h6⟩
    · refine .inl ⟨h1, .inl ⟨?_, h3⟩⟩
      cases nn' with
      | false => rfl
      | true => rw [hnn rfl] at h2; cases h2
    · exact .inl ⟨h1, .inr h2⟩
    · refine .inr ⟨b, cap, c, t, q, h1, hS b h2, h3, h4, h5, hq, fun p r hp hr => ?_⟩
      have h7 := h6 p r hp hr
      have h8 := h p r hp hr
      cases m <;> cases m' <;> simp only [Mode.ok, Bool.false_eq_true] at hmm <;> simp only [EltOk] at h7 ⊢
      · exact (h7.mono fun k hk _ => ⟨rfl, zZ_ow hk⟩).le h8
      · exact (h7.mono fun k hk _ => ⟨rfl, zFZ (zF_ow hk)⟩).le h8
      · exact (h7.mono fun k hk _ => ⟨rfl, zF_ow hk⟩).le h8
      · rw [hh, hole_map] at h7
        cases hd : hole hl' p r with
        | some d =>
          simp only [hd, Option.map_some] at h7
          have := hw _ (hole_in hd)
          simp [nameOf, this, h7]
        | none =>
          simp only [hd, Option.map_none] at h7
          exact (h7.mono fun k hk _ => ⟨rfl, hS k hk.1, hk.2⟩).le h8

theorem ObsLe.rep (hm : Models cx ι ow s a w) (h : ObsLe s H ρ nw) {j : Nat} {o' : Ob} (hj : look H j = some o') :
    ObOk (zF cx (owOf ow ρ nw H)) (zZ cx (owOf ow ρ nw H)) (fun b => owOf ow ρ nw H b = some j) (nameOf ι ρ nw) w (nameOf ι ρ nw j) o' := by
  rcases h.obs j o' hj with ⟨hn, o, ho, hle⟩ | ⟨hn, m, esz, g, rfl⟩
  · exact ObLe.rep hm h.inj hj hn ho hle
  · exact .inl ⟨rfl, .inl ⟨rfl, by simp [nameOf, hn]⟩⟩

theorem ow_dom (hm : Models cx ι ow s a w) {b j : Nat} (h : owOf ow ρ nw H b = some j) : (look H j).isSome = true ∧ (cx.D0 b ∨ cx.w0.heap.size ≤ b) := by
  obtain ⟨i, h1, h2⟩ := ow_some h
  obtain ⟨⟨o, h3⟩, _⟩ := invOf_spec h2
  exact ⟨mem_look_some h3, (hm.dom b i h1).2⟩

theorem Models.weak (hm : Models cx ι ow s a w) {s' : St} (h : StLe s s' ρ nw) : Models cx (nameOf ι ρ nw) (owOf ow ρ nw s'.H) s' a w where
  defers := hm.defers
  size := hm.size
  env := fun t => AvLe.rep hm _ _ (h.env t) _ (hm.env t)
  obs := fun i o ho => h.obs.rep hm ho
  dom := fun b i hb => ow_dom hm hb
  ext := hm.ext
  gl := fun g c hg => (hm.gl g c hg).mono fun b hb _ => ⟨rfl, zZ_ow hb⟩
  kp := fun i hi => by
    obtain ⟨h1, h2⟩ := h.pin i hi
    simp [nameOf, h1, h2, hm.kp i hi]

theorem StLe.wk {s s' : St} (h : StLe s s' ρ nw) : Wk s s' := fun cx ι ow a w hm => ⟨_, _, hm.weak h⟩
end
end Go.Gw
