/- How states follow the world's changes: slots, new blocks, objects let go, contents put back; with no condition. -/
import Derived.Test.YtopnhnnfobbocaaDoorGw1
namespace Go.Gw
set_option linter.unusedVariables false
set_option linter.unusedSimpArgs false
open Go

/-- The world has new blocks at most. -/
def Grows (w w' : World) : Prop := Ext (fun _ => False) w w'
theorem Grows.refl (w : World) : Grows w w := Ext.refl _ _
theorem Grows.same {w w' : World} (h : Grows w w') {b : Nat} (hb : b < w.heap.size) : w'.heap[b]? = w.heap[b]? := h.block b hb (fun h => h)
theorem Grows.trans {a b c : World} (h : Grows a b) (k : Grows b c) : Grows a c := Ext.trans h k (fun _ _ h => h)
theorem Grows.alloc (w : World) (o : Obj) : Grows w (w.alloc o) :=
  ⟨rfl, rfl, rfl, Nat.le_refl _, by simp, fun b hb _ => RowKit.Below.heap_alloc w o b hb⟩
theorem Grows.drew (w : World) : Grows w w.drew := ⟨rfl, rfl, rfl, (show w.drawn ≤ w.drawn + 1 from Nat.le_succ _), Nat.le_refl _, fun _ _ _ => rfl⟩

theorem getD_set (xs : Array Value) (t u : Nat) (v : Value) : (xs.setIfInBounds t v).getD u undef = if t = u ∧ t < xs.size then v else xs.getD u undef := by
  simp only [Array.getD_eq_getD_getElem?, Array.getElem?_setIfInBounds]
  by_cases h : t = u
  · subst h
    by_cases h2 : t < xs.size
    · simp [h2]
    · simp [h2, Array.getElem?_eq_none (Nat.le_of_not_lt h2)]
  · simp [h]

section
variable {cx : Cx} {ι : Nat → Value} {ow : Nat → Option Nat} {s : St} {a : Act} {w : World}

theorem Models.grow (hm : Models cx ι ow s a w) {w' : World} (hg : Grows w w') : Models cx ι ow s a w' :=
  hm.change (s' := s) rfl (fun _ => .inl rfl) (fun b hl ho => ⟨ho, hg.same hl⟩) hm.dom hg.os hg.tape hg.output hg.drawn hg.size
    fun i o ho => .inl ⟨rfl, ho, fun b hl h => ⟨h, hg.same hl⟩⟩

theorem Models.put (hm : Models cx ι ow s a w) {c : AV} {v : Value} (h : RepA (zF cx ow) (zZ cx ow) ι w c v) {t : Nat} (ht : t < cx.n) :
    Models cx ι ow (s.put t c) { a with tmps := a.tmps.setIfInBounds t v } w where
  defers := hm.defers
  size := by simpa using hm.size
  env := fun u => by
    rw [St.get_put, getD_set]
    by_cases hu : t = u
    · subst hu
      rw [if_pos rfl, if_pos ⟨rfl, by rw [hm.size]; exact ht⟩]
      exact h
    · rw [if_neg hu, if_neg (fun e => hu e.1)]
      exact hm.env u
  obs := hm.obs
  dom := hm.dom
  ext := hm.ext
  gl := hm.gl
  kp := hm.kp

theorem Models.putD (hm : Models cx ι ow s a w) {c : AV} {v : Value} (h : RepA (zF cx ow) (zZ cx ow) ι w c v) {d : Option Nat} (ht : ∀ t, d = some t → t < cx.n) :
    Models cx ι ow (s.putD d c) (a.put d v) w := by
  cases d with
  | none => exact hm
  | some t => exact hm.put h (ht t rfl)

/-- A slot's value is described in other words. -/
theorem Models.redesc (hm : Models cx ι ow s a w) {t : Nat} {c : AV} (h : RepA (zF cx ow) (zZ cx ow) ι w c (a.tmps.getD t undef)) :
    Models cx ι ow (s.put t c) a w where
  defers := hm.defers
  size := hm.size
  env := fun u => by
    rw [St.get_put]
    by_cases hu : t = u
    · subst hu; rw [if_pos rfl]; exact h
    · rw [if_neg hu]; exact hm.env u
  obs := hm.obs
  dom := hm.dom
  ext := hm.ext
  gl := hm.gl
  kp := hm.kp

theorem Models.same (hm : Models cx ι ow s a w) {s' : St} (h1 : ∀ t, s'.get t = s.get t) (h2 : ∀ i, s'.obj i = s.obj i) : Models cx ι ow s' a w where
  defers := hm.defers
  size := hm.size
  env := fun t => by rw [h1]; exact hm.env t
  obs := fun i o h => hm.obs i o (by rw [← h2]; exact h)
  dom := fun b i h => by rw [h2]; exact hm.dom b i h
  ext := hm.ext
  gl := hm.gl
  kp := hm.kp

def St.drop (s : St) (l : List Nat) : St := { s with env := s.env.filter fun x => !l.contains x.1 }

theorem look_filter {α : Type} (l : List Nat) (u : Nat) : ∀ e : List (Nat × α), look (e.filter fun x => !l.contains x.1) u = if l.contains u then none else look e u := by
  intro e
  induction e with
  | nil => simp [look]
  | cons x r ih =>
    obtain ⟨t, c⟩ := x
    simp only [List.filter_cons]
    by_cases ht : l.contains t
    · simp only [ht, Bool.not_true, Bool.false_eq_true, if_false, ih, look]
      by_cases hu : t = u
      · subst hu; simp only [ht, if_true]
      · simp [hu]
    · simp only [ht, Bool.not_false, if_true, look, ih]
      by_cases hu : t = u
      · subst hu; simp only [ht, if_true]; rfl
      · simp [hu]

theorem Models.drop (hm : Models cx ι ow s a w) (l : List Nat) : Models cx ι ow (s.drop l) a w where
  defers := hm.defers
  size := hm.size
  env := fun u => by
    unfold St.get St.drop
    rw [look_filter]
    split
    · exact .pf _ _ (.any _)
    · exact hm.env u
  obs := hm.obs
  dom := hm.dom
  ext := hm.ext
  gl := hm.gl
  kp := hm.kp

/-- Objects that are let go: their blocks are free. -/
def rel (ow : Nat → Option Nat) (l : List Nat) (b : Nat) : Option Nat := match ow b with
  | some i => if i ∈ l then none else some i
  | none => none

def St.dels (s : St) : List Nat → St
  | [] => s
  | j :: l => (s.delOb j).dels l

theorem obj_dels (l : List Nat) : ∀ (s : St) (i : Nat), (s.dels l).obj i = if i ∈ l then none else s.obj i := by
  induction l with
  | nil => intro s i; simp [St.dels]
  | cons j l ih =>
    intro s i
    simp only [St.dels, ih, St.obj_delOb, List.mem_cons]
    by_cases h : i ∈ l
    · simp [h]
    · by_cases h2 : j = i
      · subst h2; simp
      · have : ¬ i = j := fun e => h2 e.symm
        simp [h, h2, this]

theorem get_dels (l : List Nat) : ∀ (s : St) (t : Nat), (s.dels l).get t = s.get t := by
  induction l with
  | nil => intro s i; rfl
  | cons j l ih => intro s i; exact ih (s.delOb j) i

theorem env_dels (l : List Nat) : ∀ (s : St), (s.dels l).env = s.env := by
  induction l with
  | nil => intro s; rfl
  | cons j l ih => intro s; exact ih (s.delOb j)

theorem env_upd (u : Upd) : ∀ (s : St), (s.upd u).env = s.env := by
  induction u with
  | nil => intro s; rfl
  | cons x u ih => intro s; obtain ⟨i, o⟩ := x; cases o <;> exact ih _

theorem Models.dels (hm : Models cx ι ow s a w) (l : List Nat) : Models cx ι (rel ow l) (s.dels l) a w := by
  refine hm.change (env_dels l s) (fun _ => .inl rfl) (fun b hl ho => ⟨by simp [rel, ho], rfl⟩) (fun b i h => ?_) rfl rfl rfl (Nat.le_refl _) (Nat.le_refl _) fun i o ho => .inl ⟨rfl, ?_, fun b hl h => ⟨?_, rfl⟩⟩
  · unfold rel at h
    split at h
    · rename_i j hj
      split at h
      · cases h
      · rename_i hn
        cases h
        obtain ⟨h1, h2⟩ := hm.dom b i hj
        exact ⟨by rw [obj_dels, if_neg hn]; exact h1, h2⟩
    · cases h
  · rw [obj_dels] at ho; split at ho
    · cases ho
    · exact ho
  · rw [obj_dels] at ho
    split at ho
    · cases ho
    · rename_i hn; simp [rel, h, hn]

/-! ### A row as data -/
theorem rowU_iff {F Z S : Nat → Prop} {x : Value} {nn : Bool} {esz n : Nat} {g : Nat → Nat → PV} : ObOk F Z S ι w x (.row .u nn esz n g []) ↔ RepU w S (.sl nn esz n g) x := by
  constructor
  · rintro (⟨rfl, ⟨rfl, rfl⟩ | ⟨b, off, rfl⟩⟩ | ⟨b, cap, c, t, q, rfl, h0, h1, h2, h3, hq, h5⟩)
    · exact .nil _ _ _
    · exact .emp _ _ _ _ _ _
    · exact .sl _ _ _ _ _ b cap c t q h0 h1 h2 h3 hq h5
  · intro h
    cases h with
    | nil => exact .inl ⟨rfl, .inl ⟨rfl, rfl⟩⟩
    | emp _ _ _ _ b off => exact .inl ⟨rfl, .inr ⟨b, off, rfl⟩⟩
    | sl _ _ _ _ _ b cap c t q h0 h1 h2 h3 hq h5 => exact .inr ⟨b, cap, c, t, q, rfl, h0, h1, h2, h3, hq, h5⟩

/-- A row that nobody writes any more. -/
theorem ObOk.frozen {F Z S Y : Nat → Prop} {x : Value} {m : Mode} {nn : Bool} {esz n : Nat} {g : Nat → Nat → PV}
    (h : ObOk F Z S ι w x (.row m nn esz n g [])) (hY : ∀ b, (match m with | .z => Z b | .f => F b | .u => False) → b < w.heap.size → Y b) (hb : ∀ b, S b → b < w.heap.size → Y b) : RepP Y w (.sl nn esz n g) x := by
  rcases h with ⟨rfl, ⟨rfl, rfl⟩ | ⟨b, off, rfl⟩⟩ | ⟨b, cap, c, t, q, rfl, h0, h1, h2, h3, hq, h5⟩
  · exact .nil _ _
  · exact .sl _ _ _ _ b off 0 (fun _ _ => undef) (fun i j hi => by omega) (fun i j hi => by omega) (fun i j hi => by omega) (Nat.le_refl _)
  · refine .sl nn esz n g b 0 cap (fun i j => c.getD (i * esz + j) undef) (fun i j hi hj => ?_) (fun i j hi hj => ?_) (fun i j hi hj => hb b h0 (heap_lt h1)) h2
    · have := idx_lt hi hj
      have := Nat.mul_le_mul_right esz h2
      rw [Nat.zero_add]
      exact cell_of_row h1 (by omega)
    · have h6 := h5 i j hi hj
      cases m with
      | z => exact RepP.mono (fun b hb' hl => ⟨rfl, hY b hb' hl⟩) h6
      | f => exact RepP.mono (fun b hb' hl => ⟨rfl, hY b hb' hl⟩) h6
      | u =>
        simp only [EltOk, hole] at h6
        exact h6.toP fun k hk hl => hb k hk.1 hl

/-- The handle of an object takes one cell. -/
def Value.one : Value → Bool
  | .agg _ => false
  | .tuple _ => false
  | _ => true

theorem own_one (hm : Models cx ι ow s a w) {i : Nat} (h : (s.obj i).isSome = true) : (ι i).oneCell' = true := by
  cases ho : s.obj i with
  | none => simp [ho] at h
  | some o =>
    have := hm.obs i o ho
    cases o with
    | box cs => obtain ⟨b, c, t, h1, _⟩ := this; rw [h1]; rfl
    | row m nn esz n g hl =>
      rcases this with ⟨_, ⟨_, h1⟩ | ⟨b, off, h1⟩⟩ | ⟨b, cap, c, t, q, h1, _⟩ <;> rw [h1] <;> rfl
    | map f n => obtain ⟨b, e, k, h1, _⟩ := this; rw [h1]; rfl

end

/-! ### A cell's content is put back -/
theorem hole_filter_ne (j : Nat) : ∀ (hl : List (Nat × Nat × Nat)) (a b : Nat), b ≠ j → hole (hl.filter fun x => x.2.1 != j) a b = hole hl a b
  | [], a, b, h => rfl
  | (k, l, d) :: r, a, b, h => by
    simp only [List.filter_cons]
    split
    · simp only [hole, hole_filter_ne j r a b h]
    · rename_i hl
      simp only [bne_iff_ne, ne_eq, Decidable.not_not] at hl
      subst hl
      simp only [hole, hole_filter_ne l r a b h]
      rw [if_neg (fun e => h e.2)]

theorem hole_filter_eq (j : Nat) : ∀ (hl : List (Nat × Nat × Nat)) (a : Nat), hole (hl.filter fun x => x.2.1 != j) a j = none
  | [], a => rfl
  | (k, l, d) :: r, a => by
    simp only [List.filter_cons]
    split
    · rename_i hl
      simp only [hole, hole_filter_eq j r a]
      rw [if_neg (fun e => by simp [e.2] at hl)]
    · exact hole_filter_eq j r a

theorem hole_of_filter (j : Nat) : ∀ (hl : List (Nat × Nat × Nat)) (a : Nat), hole hl a j = hole (hl.filter fun x => x.2.1 == j) a j
  | [], a => rfl
  | (k, l, d) :: r, a => by
    simp only [List.filter_cons]
    split
    · simp only [hole, hole_of_filter j r a]
    · rename_i hl
      simp only [hole]
      rw [if_neg (fun e => hl (by simp [e.2])), hole_of_filter j r a]

def cellSet (g : Nat → Nat → PV) (k j : Nat) (c : PV) : Nat → Nat → PV := fun a b => if b = j ∧ a = k then c else g a b

/-- Column j of row i holds what the object holds that stands for it. -/
def St.back (s : St) (i j : Nat) : Option St :=
  match s.obj i with
  | some (.row .u nn esz n g hl) => match hl.filter fun x => x.2.1 == j with
    | [(k, _, d)] => match s.obj d with
      | some (.row .u nn' esz' n' g' []) => if i == d then none else
          some ((s.delOb d).setOb i (.row .u nn esz n (cellSet g k j (.sl nn' esz' n' g')) (hl.filter fun x => x.2.1 != j)))
      | none => some (s.setOb i (.row .u nn esz n (cellSet g k j .any) (hl.filter fun x => x.2.1 != j)))
      | _ => none
    | _ => none
  | _ => none

section
variable {cx : Cx} {ι : Nat → Value} {ow : Nat → Option Nat} {s : St} {a : Act} {w : World}

theorem Models.back (hm : Models cx ι ow s a w) {i j : Nat} {s' : St} (h : s.back i j = some s') : ∃ ow', Models cx ι ow' s' a w := by
  unfold St.back at h
  split at h
  case h_2 => cases h
  rename_i nn esz n g hl ho
  split at h
  case h_2 => cases h
  rename_i k j' d hf
  have hj' : j' = j := by
    have : (k, j', d) ∈ hl.filter fun x => x.2.1 == j := by rw [hf]; exact List.mem_singleton.2 rfl
    simpa using (List.mem_filter.1 this).2
  subst hj'
  have hh : ∀ p, hole hl p j' = if p = k then some d else none := fun p => by
    rw [hole_of_filter, hf]; simp [hole]
  split at h
  · rename_i nn' esz' n' g' hd
    split at h
    · cases h
    · rename_i hid
      simp only [beq_iff_eq] at hid
      cases h
      refine ⟨fun b => if ow b = some d then some i else ow b, hm.change rfl (fun _ => .inl rfl) (fun b hl ho => ⟨by simp [ho], rfl⟩) (fun b e he => ?_) rfl rfl rfl (Nat.le_refl _) (Nat.le_refl _) fun e o hob => ?_⟩
      · have hx := fun e h => (hm.dom b e h)
        split at he
        · rename_i h1
          cases he
          exact ⟨by rw [St.obj_setOb, if_pos rfl]; rfl, (hx d h1).2⟩
        · rename_i h1
          refine ⟨?_, (hx e he).2⟩
          rw [St.obj_setOb]
          split
          · rfl
          · have hne : ¬ d = e := fun x => h1 (by rw [x]; exact he)
            rw [St.obj_delOb, if_neg hne]; exact (hx e he).1
      · rw [St.obj_setOb] at hob
        split at hob
        · rename_i he
          subst he
          cases hob
          refine .inr fun hF hZ hno => ?_
          rcases hm.obs i _ ho with h | ⟨b, cap, c, t, q, h4, h0, h1, h2, h3, hq, h5⟩
          · exact .inl h
          · refine .inr ⟨b, cap, c, t, fun e => if ow e = some d then some (k, j') else q e, h4, ?_, h1, h2, h3, ?_, fun p r hp hr => ?_⟩
            · show (if ow b = some d then some i else ow b) = some i
              rw [if_neg (by rw [h0]; intro e; cases e; exact hid rfl)]; exact h0
            · show (if ow b = some d then some (k, j') else q b) = none
              rw [if_neg (by rw [h0]; intro e; cases e; exact hid rfl)]; exact hq
            · have h6 := h5 p r hp hr
              simp only [EltOk] at h6 ⊢
              by_cases hrj : r = j'
              · subst hrj
                rw [hole_filter_eq]
                rw [hh] at h6
                show RepU w _ (cellSet g k r _ p r) _
                unfold cellSet
                by_cases hpk : p = k
                · subst hpk
                  simp only [if_true] at h6
                  rw [if_pos ⟨rfl, rfl⟩, h6]
                  have h7 := rowU_iff.1 (hm.obs d _ hd)
                  exact h7.mono fun e he _ => ⟨rfl, by simp [he], by simp [he]⟩
                · rw [if_neg hpk] at h6
                  rw [if_neg (fun e => hpk e.2)]
                  exact h6.mono fun e he _ => ⟨rfl, by rw [if_neg (by rw [he.1]; intro e; cases e; exact hid rfl)]; exact he.1, by rw [if_neg (by rw [he.1]; intro e; cases e; exact hid rfl)]; exact he.2⟩
              · rw [hole_filter_ne j' hl p r hrj]
                have eg : cellSet g k j' (.sl nn' esz' n' g') p r = g p r := if_neg (fun e => hrj e.1)
                rw [eg]
                cases hhl : hole hl p r with
                | some d2 => simp only [hhl] at h6 ⊢; exact h6
                | none =>
                  simp only [hhl] at h6 ⊢
                  exact h6.mono fun e he _ => ⟨rfl, by rw [if_neg (by rw [he.1]; intro e; cases e; exact hid rfl)]; exact he.1, by rw [if_neg (by rw [he.1]; intro e; cases e; exact hid rfl)]; exact he.2⟩
        · rename_i he
          rw [St.obj_delOb] at hob
          split at hob
          · cases hob
          · rename_i hed
            exact .inl ⟨rfl, hob, fun b hb h => ⟨by rw [if_neg (by rw [h]; intro x; cases x; exact hed rfl)]; exact h, rfl⟩⟩
  · rename_i hd
    cases h
    refine ⟨ow, hm.change rfl (fun _ => .inl rfl) (fun b hl ho => ⟨ho, rfl⟩) (fun b e he => ?_) rfl rfl rfl (Nat.le_refl _) (Nat.le_refl _) fun e o hob => ?_⟩
    · refine ⟨?_, (hm.dom b e he).2⟩
      rw [St.obj_setOb]
      split
      · rfl
      · exact (hm.dom b e he).1
    · rw [St.obj_setOb] at hob
      split at hob
      · rename_i he
        subst he
        cases hob
        refine .inr fun hF hZ hno => ?_
        rcases hm.obs i _ ho with h | ⟨b, cap, c, t, q, h4, h0, h1, h2, h3, hq, h5⟩
        · exact .inl h
        · refine .inr ⟨b, cap, c, t, q, h4, h0, h1, h2, h3, hq, fun p r hp hr => ?_⟩
          have h6 := h5 p r hp hr
          simp only [EltOk] at h6 ⊢
          by_cases hrj : r = j'
          · subst hrj
            rw [hole_filter_eq]
            rw [hh] at h6
            show RepU w _ (cellSet g k r _ p r) _
            unfold cellSet
            by_cases hpk : p = k
            · rw [if_pos ⟨rfl, hpk⟩]; exact .any _ _
            · rw [if_neg hpk] at h6
              rw [if_neg (fun e => hpk e.2)]
              exact h6
          · rw [hole_filter_ne j' hl p r hrj]
            have eg : cellSet g k j' .any p r = g p r := if_neg (fun e => hrj e.1)
            rw [eg]
            exact h6
      · exact .inl ⟨rfl, hob, fun b hb h => ⟨h, rfl⟩⟩
  · cases h

/-- Whatever columns stand for objects that no slot speaks of. -/
def idle (s : St) (i d : Nat) : Bool := (s.env.all fun x => x.2.noid d) && (s.H.all fun x => x.1 == i || x.2.noid d)

def St.settleL (s : St) : List (Nat × Nat × Nat) → St
  | [] => s
  | (i, j, d) :: r => if idle s i d then (match s.back i j with | some s' => s'.settleL r | none => s.settleL r) else s.settleL r

def holesOf : List (Nat × Ob) → List (Nat × Nat × Nat)
  | [] => []
  | (i, .row _ _ _ _ _ hl) :: r => (hl.map fun x => (i, x.2.1, x.2.2)) ++ holesOf r
  | (_, .box _) :: r => holesOf r
  | (_, .map _ _) :: r => holesOf r

def St.settle (s : St) : St := s.settleL (holesOf s.H)

theorem Models.settleL : ∀ (l : List (Nat × Nat × Nat)) {ow : Nat → Option Nat} {s : St}, Models cx ι ow s a w → ∃ ow', Models cx ι ow' (s.settleL l) a w
  | [], ow, s, hm => ⟨ow, hm⟩
  | (i, j, d) :: r, ow, s, hm => by
    simp only [St.settleL]
    split
    · split
      · rename_i s' hs
        obtain ⟨ow', hm'⟩ := hm.back hs
        exact Models.settleL r hm'
      · exact Models.settleL r hm
    · exact Models.settleL r hm

theorem Models.settle (hm : Models cx ι ow s a w) : ∃ ow', Models cx ι ow' s.settle a w := Models.settleL _ hm
end
end Go.Gw
