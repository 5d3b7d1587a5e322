/- How abstract states follow the world's changes; with no condition. -/
import Derived.Test.YtkhdnhdikooncaaFw1
namespace Go.Fw
set_option linter.unusedVariables false
set_option linter.unusedSimpArgs false
open Go

theorem St.get_put (s : St) (t u : Nat) (c : AV) : (s.put t c).get u = if t = u then c else s.get u := by
  simp only [St.get, St.put, look_ins]; split <;> rfl
theorem St.obj_setOb (s : St) (i j : Nat) (o : Ob) : (s.setOb i o).obj j = if i = j then some o else s.obj j := by
  simp only [St.obj, St.setOb, look_ins]
theorem St.obj_delOb (s : St) (i j : Nat) : (s.delOb i).obj j = if i = j then none else s.obj j := by
  simp only [St.obj, St.delOb, look_del]

/-- The world has new blocks at most. -/
def Grows (w w' : World) : Prop := Ext (fun _ => False) w w'
theorem Grows.refl (w : World) : Grows w w := Ext.refl _ _
theorem Grows.same {w w' : World} (h : Grows w w') {b : Nat} (hb : b < w.heap.size) : w'.heap[b]? = w.heap[b]? := h.block b hb (fun h => h)
theorem Grows.trans {a b c : World} (h : Grows a b) (k : Grows b c) : Grows a c := Ext.trans h k (fun _ _ h => h)
theorem Grows.alloc (w : World) (o : Obj) : Grows w (w.alloc o) :=
  ⟨rfl, rfl, rfl, by simp, fun b hb _ => RowKit.Below.heap_alloc w o b hb⟩
theorem Grows.drew (w : World) : Grows w w.drew := ⟨rfl, rfl, rfl, Nat.le_refl _, fun _ _ _ => rfl⟩

theorem heap_lt {w : World} {b : Nat} {o : Obj} (h : w.heap[b]? = some o) : b < w.heap.size := by
  rcases Nat.lt_or_ge b w.heap.size with h' | h'
  · exact h'
  · simp [Array.getElem?_eq_none h'] at h

theorem ObOk.mono {F F' Z Z' : Nat → Prop} {ι ι' : Nat → Value} {w w' : World} {x : Value} {o : Ob}
    (hF : ∀ b, F b → b < w.heap.size → w'.heap[b]? = w.heap[b]? ∧ F' b)
    (hZ : ∀ b, Z b → b < w.heap.size → w'.heap[b]? = w.heap[b]? ∧ Z' b)
    (hx : ObOk F Z ι w x o) (hi : ∀ i, o.noid i = false → ι' i = ι i) (hb : ∀ b, blk x = some b → w'.heap[b]? = w.heap[b]?) :
    ObOk F' Z' ι' w' x o := by
  cases o with
  | box cs =>
    obtain ⟨b, c, t, rfl, h1, h2, h3⟩ := hx
    refine ⟨b, c, t, rfl, (hb b rfl).trans h1, h2, fun j cc hj => (h3 j cc hj).mono hF hZ fun i hc => hi i ?_⟩
    cases h : (Ob.box cs).noid i with
    | false => rfl
    | true => rw [noids_get h hj] at hc; cases hc
  | row fr esz n g =>
    rcases hx with ⟨h1, h2⟩ | ⟨b, cap, c, t, rfl, h1, h2, h3, h5⟩
    · exact .inl ⟨h1, h2⟩
    · refine .inr ⟨b, cap, c, t, rfl, (hb b rfl).trans h1, h2, h3, fun i j hi' hj => ?_⟩
      have := h5 i j hi' hj
      cases fr
      · exact this.mono hZ
      · exact this.mono hF

theorem ObOk.blk_lt {F Z : Nat → Prop} {ι : Nat → Value} {w : World} {x : Value} {o : Ob} (hx : ObOk F Z ι w x o) {b : Nat} (hb : blk x = some b) : b < w.heap.size := by
  cases o with
  | box cs =>
    obtain ⟨b', c, t, rfl, h1, h2, h3⟩ := hx
    simp only [blk, Option.some.injEq] at hb
    subst hb
    exact heap_lt h1
  | row fr esz n g =>
    rcases hx with ⟨rfl, h2⟩ | ⟨b', cap, c, t, rfl, h1, h2, h3, h5⟩
    · simp [blk] at hb
    · simp only [blk, Option.some.injEq] at hb
      subst hb
      exact heap_lt h1

section
variable {cx : Cx} {ι : Nat → Value} {s : St} {a : Act} {w : World}

theorem Models.grow (hm : Models cx ι s a w) {w' : World} (hg : Grows w w') : Models cx ι s a w' where
  defers := hm.defers
  size := hm.size
  env := fun t => (hm.env t).mono (fun b hb hl => ⟨hg.same hl, hb⟩) (fun b hb hl => ⟨hg.same hl, hb⟩) (fun _ _ => rfl)
  obs := fun i o ho => (hm.obs i o ho).mono (fun b hb hl => ⟨hg.same hl, hb⟩) (fun b hb hl => ⟨hg.same hl, hb⟩) (fun _ _ => rfl)
    (fun b hb => hg.same ((hm.obs i o ho).blk_lt hb))
  dj := hm.dj
  new := hm.new
  ext := hm.ext.trans hg (fun _ _ h => h.elim)
  gl := fun g c h => (hm.gl g c h).mono (fun b hb hl => ⟨hg.same hl, hb⟩)

theorem getD_set (xs : Array Value) (t u : Nat) (v : Value) : (xs.setIfInBounds t v).getD u undef = if t = u ∧ t < xs.size then v else xs.getD u undef := by
  simp only [Array.getD_eq_getD_getElem?, Array.getElem?_setIfInBounds]
  by_cases h : t = u
  · subst h
    by_cases h2 : t < xs.size
    · simp [h2]
    · simp [h2, Array.getElem?_eq_none (Nat.le_of_not_lt h2)]
  · simp [h]

theorem Models.put (hm : Models cx ι s a w) {c : AV} {v : Value} (h : RepA (zF cx ι s) (zZ cx ι s) ι w c v) {t : Nat} (ht : t < cx.n) :
    Models cx ι (s.put t c) { a with tmps := a.tmps.setIfInBounds t v } w where
  defers := hm.defers
  size := by simpa using hm.size
  env := fun u => by
    rw [St.get_put, getD_set]
    by_cases hu : t = u
    · subst hu
      rw [if_pos rfl, if_pos ⟨rfl, by rw [hm.size]; exact ht⟩]
      exact h
    · rw [if_neg hu, if_neg (fun e => hu e.1)]
      exact hm.env u
  obs := hm.obs
  dj := hm.dj
  new := hm.new
  ext := hm.ext
  gl := hm.gl

theorem Models.putD (hm : Models cx ι s a w) {c : AV} {v : Value} (h : RepA (zF cx ι s) (zZ cx ι s) ι w c v) {d : Option Nat} (ht : ∀ t, d = some t → t < cx.n) :
    Models cx ι (s.putD d c) (a.put d v) w := by
  cases d with
  | none => exact hm
  | some t => exact hm.put h (ht t rfl)

/-- Object i gives way to object k with the handle x, in its own block or in a new one. -/
theorem Models.change (hm : Models cx ι s a w) (i k : Nat) (x : Value) (ob : Ob) {w' : World}
    (hk : s.noid k ∨ (k = i ∧ x = ι k))
    (hb : ∀ b, blk x = some b → w.heap.size ≤ b ∨ ∃ o, s.obj i = some o ∧ blk (ι i) = some b)
    (hos : w'.os = w.os) (htape : w'.tape = w.tape) (hout : w'.output = w.output) (hsize : w.heap.size ≤ w'.heap.size)
    (hsame : ∀ b, b < w.heap.size → blk x ≠ some b → w'.heap[b]? = w.heap[b]?)
    (hob : ∀ F' Z' : Nat → Prop, ∀ ι' : Nat → Value,
      (∀ b, zF cx ι s b → b < w.heap.size → w'.heap[b]? = w.heap[b]? ∧ F' b) →
      (∀ b, zZ cx ι s b → b < w.heap.size → w'.heap[b]? = w.heap[b]? ∧ Z' b) →
      (∀ j, s.noid k → j ≠ k → ι' j = ι j) → (x = ι k → ∀ j, ι' j = ι j) → ObOk F' Z' ι' w' x ob) :
    Models cx (fun j => if j = k then x else ι j) ((s.delOb i).setOb k ob) a w' := by
  have hobj : ∀ j o, ((s.delOb i).setOb k ob).obj j = some o → (j = k ∧ o = ob) ∨ (j ≠ k ∧ j ≠ i ∧ s.obj j = some o) := by
    intro j o h
    rw [St.obj_setOb] at h
    by_cases hj : k = j
    · rw [if_pos hj] at h; exact .inl ⟨hj.symm, by simpa using h.symm⟩
    · rw [if_neg hj, St.obj_delOb] at h
      by_cases hj2 : i = j
      · rw [if_pos hj2] at h; cases h
      · rw [if_neg hj2] at h; exact .inr ⟨fun e => hj e.symm, fun e => hj2 e.symm, h⟩
  have hin : ∀ b, b < w.heap.size → ¬ inH ι s b → ¬ inH (fun j => if j = k then x else ι j) ((s.delOb i).setOb k ob) b := by
    rintro b hl hn ⟨j, o, h1, h2⟩
    rcases hobj j o h1 with ⟨rfl, rfl⟩ | ⟨hj, hji, h3⟩
    · simp only [if_true] at h2
      rcases hb b h2 with h4 | ⟨o', h5, h6⟩
      · omega
      · exact hn ⟨i, o', h5, h6⟩
    · simp only [if_neg hj] at h2
      exact hn ⟨j, o, h3, h2⟩
  have hne : ∀ b, b < w.heap.size → ¬ inH ι s b → w'.heap[b]? = w.heap[b]? := by
    intro b hl hn
    refine hsame b hl fun e => ?_
    rcases hb b e with h4 | ⟨o', h5, h6⟩
    · omega
    · exact hn ⟨i, o', h5, h6⟩
  have hF : ∀ b, zF cx ι s b → b < w.heap.size → w'.heap[b]? = w.heap[b]? ∧ zF cx (fun j => if j = k then x else ι j) ((s.delOb i).setOb k ob) b :=
    fun b h hl => ⟨hne b hl h.2, h.1, hin b hl h.2⟩
  have hZ : ∀ b, zZ cx ι s b → b < w.heap.size → w'.heap[b]? = w.heap[b]? ∧ zZ cx (fun j => if j = k then x else ι j) ((s.delOb i).setOb k ob) b :=
    fun b h hl => ⟨hne b hl h.2, h.1, hin b hl h.2⟩
  have hι : ∀ j, (x = ι k) → (if j = k then x else ι j) = ι j := fun j e => by
    by_cases hj : j = k
    · simp [hj, e]
    · simp [hj]
  have hid : ∀ c : AV, (s.noid k → c.noid k = true) → ∀ j, c.noid j = false → (if j = k then x else ι j) = ι j := by
    intro c hc j hj
    rcases hk with h | ⟨h1, h2⟩
    · have : j ≠ k := fun e => by subst e; rw [hc h] at hj; cases hj
      simp [this]
    · exact hι j h2
  exact {
    defers := hm.defers
    size := hm.size
    env := fun t => (hm.env t).mono hF hZ (hid _ fun h => h.1 t)
    obs := fun j o h => by
      rcases hobj j o h with ⟨rfl, rfl⟩ | ⟨hj, hji, h3⟩
      · simp only [if_true]
        exact hob _ _ _ hF hZ (fun l _ hl => by simp [hl]) (fun e l => hι l e)
      · simp only [if_neg hj]
        refine (hm.obs j o h3).mono hF hZ (fun l hl => ?_) fun b hbb => ?_
        · rcases hk with h | ⟨h1, h2⟩
          · have : l ≠ k := fun e => by subst e; rw [h.2 j o h3] at hl; cases hl
            simp [this]
          · exact hι l h2
        · refine hsame b ((hm.obs j o h3).blk_lt hbb) fun e => ?_
          rcases hb b e with h4 | ⟨o', h5, h6⟩
          · have := (hm.obs j o h3).blk_lt hbb; omega
          · exact hji (hm.dj j o i o' b h3 h5 hbb h6)
    dj := fun j o j' o' b h h' e e' => by
      rcases hobj j o h with ⟨rfl, rfl⟩ | ⟨hj, hji, h3⟩ <;> rcases hobj j' o' h' with ⟨rfl, rfl⟩ | ⟨hj', hji', h3'⟩
      · rfl
      · simp only [if_true] at e
        simp only [if_neg hj'] at e'
        rcases hb b e with h4 | ⟨o'', h5, h6⟩
        · have := (hm.obs j' o' h3').blk_lt e'; omega
        · exact (hji' (hm.dj _ _ _ _ b h3' h5 e' h6)).elim
      · simp only [if_true] at e'
        simp only [if_neg hj] at e
        rcases hb b e' with h4 | ⟨o'', h5, h6⟩
        · have := (hm.obs j o h3).blk_lt e; omega
        · exact (hji (hm.dj _ _ _ _ b h3 h5 e h6)).elim
      · simp only [if_neg hj] at e
        simp only [if_neg hj'] at e'
        exact hm.dj _ _ _ _ b h3 h3' e e'
    new := by
      rintro b ⟨j, o, h1, h2⟩
      rcases hobj j o h1 with ⟨rfl, rfl⟩ | ⟨hj, hji, h3⟩
      · simp only [if_true] at h2
        rcases hb b h2 with h4 | ⟨o', h5, h6⟩
        · exact .inr (Nat.le_trans hm.ext.size h4)
        · exact hm.new b ⟨i, o', h5, h6⟩
      · simp only [if_neg hj] at h2
        exact hm.new b ⟨j, o, h3, h2⟩
    ext := by
      refine ⟨hos.trans hm.ext.os, htape.trans hm.ext.tape, hout.trans hm.ext.output, Nat.le_trans hm.ext.size hsize, fun b hl hd => ?_⟩
      rw [← hm.ext.block b hl hd]
      refine hsame b (Nat.lt_of_lt_of_le hl hm.ext.size) fun e => ?_
      rcases hb b e with h4 | ⟨o', h5, h6⟩
      · have := hm.ext.size; omega
      · rcases hm.new b ⟨i, o', h5, h6⟩ with h7 | h7
        · exact hd h7
        · omega
    gl := fun g c h => (hm.gl g c h).mono hZ }

/-- What a state may be weakened to: fewer slots and objects, other names of the objects (ρ), rows that nobody writes any more; a nil slice as a row of its own ('nw'). -/
inductive AvLe (s : St) (ρ : Nat → Nat) (nw : Nat → Bool) (kept : Nat → Prop) : AV → AV → Prop
  | any (c) : AvLe s ρ nw kept c (.p false .any)
  | p (fr c) : AvLe s ρ nw kept (.p fr c) (.p fr c)
  | old (fr c) : AvLe s ρ nw kept (.p fr c) (.p false c)
  | sc (fr fr' x) : AvLe s ρ nw kept (.p fr (.v x)) (.p fr' (.v x))
  | own (i) (hn : nw i = false) : AvLe s ρ nw kept (.own (ρ i)) (.own i)
  | nil (fr i) (hn : nw i = true) : AvLe s ρ nw kept (.p fr (.v (.slice none 0 0))) (.own i)
  | adr (i off) (hn : nw i = false) : AvLe s ρ nw kept (.adr (ρ i) off) (.adr i off)
  | elt (i esz k off) (hn : nw i = false) : AvLe s ρ nw kept (.elt (ρ i) esz k off) (.elt i esz k off)
  | le (fr c d) (h : PV.Le c d) : AvLe s ρ nw kept (.p fr c) (.p fr d)
  | leo (fr c d) (h : PV.Le c d) : AvLe s ρ nw kept (.p fr c) (.p false d)
  | frz (i fr esz n g d) (h : s.obj i = some (.row fr esz n g)) (hk : ¬ kept i) (hd : PV.Le (.sl false esz n g) d) : AvLe s ρ nw kept (.own i) (.p fr d)
  | frz' (i fr esz n g d) (h : s.obj i = some (.row fr esz n g)) (hk : ¬ kept i) (hd : PV.Le (.sl false esz n g) d) : AvLe s ρ nw kept (.own i) (.p false d)
  | ag (cs ds : List AV) (hl : cs.length = ds.length) (h : ∀ (j : Nat) (c d : AV), cs[j]? = some c → ds[j]? = some d → AvLe s ρ nw kept c d) : AvLe s ρ nw kept (.ag cs) (.ag ds)
  | tp (cs ds : List AV) (hl : cs.length = ds.length) (h : ∀ (j : Nat) (c d : AV), cs[j]? = some c → ds[j]? = some d → AvLe s ρ nw kept c d) : AvLe s ρ nw kept (.tp cs) (.tp ds)
  | cl (f : FuncId) (es bs cs ds : List AV) (hl : es.length = bs.length) (hl2 : cs.length = ds.length)
      (h : ∀ (j : Nat) (c d : AV), es[j]? = some c → bs[j]? = some d → AvLe s ρ nw kept c d) (h2 : ∀ (j : Nat) (c d : AV), cs[j]? = some c → ds[j]? = some d → AvLe s ρ nw kept c d) : AvLe s ρ nw kept (.cl f es cs) (.cl f bs ds)

inductive ObLe (s : St) (ρ : Nat → Nat) (nw : Nat → Bool) (kept : Nat → Prop) : Ob → Ob → Prop
  | box (cs ds : List AV) (hl : cs.length = ds.length) (h : ∀ (j : Nat) (c d : AV), cs[j]? = some c → ds[j]? = some d → AvLe s ρ nw kept c d) : ObLe s ρ nw kept (.box cs) (.box ds)
  | row (fr esz n n' g g') (e : n = n') (h : ∀ i j, i < n → j < esz → PV.Le (g i j) (g' i j)) : ObLe s ρ nw kept (.row fr esz n g) (.row fr esz n' g')
  | old (fr esz n n' g g') (e : n = n') (h : ∀ i j, i < n → j < esz → PV.Le (g i j) (g' i j)) : ObLe s ρ nw kept (.row fr esz n g) (.row false esz n' g')

/-- The objects of s that s' keeps, under the names that ρ tells. -/
def keptBy (ρ : Nat → Nat) (nw : Nat → Bool) (s' : St) (i : Nat) : Prop := ∃ j o, s'.obj j = some o ∧ nw j = false ∧ ρ j = i

def nameOf (ι : Nat → Value) (ρ : Nat → Nat) (nw : Nat → Bool) (j : Nat) : Value := if nw j then .slice none 0 0 else ι (ρ j)

structure StLe (s s' : St) (ρ : Nat → Nat) (nw : Nat → Bool) : Prop where
  env : ∀ t, AvLe s ρ nw (keptBy ρ nw s') (s.get t) (s'.get t)
  obs : ∀ j o', s'.obj j = some o' → (nw j = false ∧ ∃ o, s.obj (ρ j) = some o ∧ ObLe s ρ nw (keptBy ρ nw s') o o') ∨ (nw j = true ∧ ∃ fr esz g, o' = .row fr esz 0 g)
  inj : ∀ j o j' o', s'.obj j = some o → s'.obj j' = some o' → nw j = false → nw j' = false → ρ j = ρ j' → j = j'

theorem cell_of_row {w : World} {b : Nat} {c : Array Value} {t : TypeId} (h : w.heap[b]? = some (.cells c t (0, 0))) {k : Nat} (hk : k < c.size) :
    w.cell? ⟨b, k, none⟩ = some (c.getD k undef) := by
  simp [World.cell?, h, Array.getD_eq_getD_getElem?, hk]

theorem idx_lt {i j n esz : Nat} (hi : i < n) (hj : j < esz) : i * esz + j < n * esz := by
  have : i * esz + esz ≤ n * esz := by rw [← Nat.succ_mul]; exact Nat.mul_le_mul_right _ hi
  omega

theorem ObOk.frozen {F Z Y : Nat → Prop} {ι : Nat → Value} {x : Value} {fr : Bool} {esz n : Nat} {g : Nat → Nat → PV}
    (h : ObOk F Z ι w x (.row fr esz n g)) (hY : ∀ b, (if fr then F else Z) b → b < w.heap.size → Y b) (hb : ∀ b, blk x = some b → Y b) : RepP Y w (.sl false esz n g) x := by
  rcases h with ⟨rfl, rfl⟩ | ⟨b, cap, c, t, rfl, h1, h2, h3, h5⟩
  · exact .nil _ _
  · refine .sl false esz n g b 0 cap (fun i j => c.getD (i * esz + j) undef) ?_ ?_ (fun _ _ _ _ => hb b rfl) h2
    · intro i j hi hj
      have := idx_lt hi hj
      have := Nat.mul_le_mul_right esz h2
      rw [Nat.zero_add]
      exact cell_of_row h1 (by omega)
    · intro i j hi hj
      have := h5 i j hi hj
      cases fr
      · exact this.mono fun b hb' hl => ⟨rfl, hY b (by simpa using hb') hl⟩
      · exact this.mono fun b hb' hl => ⟨rfl, hY b (by simpa using hb') hl⟩

theorem AvLe.rep (hm : Models cx ι s a w) {s' : St} {ρ : Nat → Nat} {nw : Nat → Bool} (hobs : ∀ j o', s'.obj j = some o' → nw j = false → ∃ o, s.obj (ρ j) = some o) : ∀ c d, AvLe s ρ nw (keptBy ρ nw s') c d → ∀ x, RepA (zF cx ι s) (zZ cx ι s) ι w c x →
    RepA (zF cx (nameOf ι ρ nw) s') (zZ cx (nameOf ι ρ nw) s') (nameOf ι ρ nw) w d x := by
  have hin : ∀ b, inH (nameOf ι ρ nw) s' b → inH ι s b := by
    rintro b ⟨j, o', h1, h2⟩
    cases hj : nw j with
    | true => simp [nameOf, hj, blk] at h2
    | false =>
      obtain ⟨o, h3⟩ := hobs j o' h1 hj
      simp only [nameOf, hj] at h2
      exact ⟨ρ j, o, h3, h2⟩
  have hF : ∀ b, zF cx ι s b → zF cx (nameOf ι ρ nw) s' b := fun b hb => ⟨hb.1, fun e => hb.2 (hin b e)⟩
  have hZ : ∀ b, zZ cx ι s b → zZ cx (nameOf ι ρ nw) s' b := fun b hb => ⟨hb.1, fun e => hb.2 (hin b e)⟩
  have hFZ : ∀ b, zF cx (nameOf ι ρ nw) s' b → zZ cx (nameOf ι ρ nw) s' b := fun b hb => ⟨.inr hb.1, hb.2⟩
  have hnew : ∀ i o, s.obj i = some o → ¬ keptBy ρ nw s' i → ∀ b, blk (ι i) = some b → zF cx (nameOf ι ρ nw) s' b := by
    intro i o ho hk b hb
    refine ⟨hm.new b ⟨i, o, ho, hb⟩, ?_⟩
    rintro ⟨j, o', h1, h2⟩
    cases hj : nw j with
    | true => simp [nameOf, hj, blk] at h2
    | false =>
      obtain ⟨o2, h3⟩ := hobs j o' h1 hj
      simp only [nameOf, hj] at h2
      exact hk ⟨j, o', h1, hj, (hm.dj _ _ _ _ b h3 ho h2 hb)⟩
  intro c d hle
  induction hle with
  | any c => intro x _; exact .pf _ _ (.any x)
  | p fr c =>
    intro x hx
    cases hx with
    | pt _ _ hx => exact .pt _ _ (hx.mono fun b hb _ => ⟨rfl, hF b hb⟩)
    | pf _ _ hx => exact .pf _ _ (hx.mono fun b hb _ => ⟨rfl, hZ b hb⟩)
  | old fr c =>
    intro x hx
    cases hx with
    | pt _ _ hx => exact .pf _ _ (hx.mono fun b hb _ => ⟨rfl, hFZ b (hF b hb)⟩)
    | pf _ _ hx => exact .pf _ _ (hx.mono fun b hb _ => ⟨rfl, hZ b hb⟩)
  | sc fr fr' x =>
    intro y hx
    have : y = x := by cases hx with
      | pt _ _ hx => cases hx; rfl
      | pf _ _ hx => cases hx; rfl
    subst this
    cases fr'
    · exact .pf _ _ (.v _)
    · exact .pt _ _ (.v _)
  | own i hn =>
    intro x hx
    cases hx
    have : ι (ρ i) = nameOf ι ρ nw i := by simp [nameOf, hn]
    rw [this]
    exact .own i
  | nil fr i hn =>
    intro x hx
    have : x = nameOf ι ρ nw i := by
      simp only [nameOf, hn]
      cases hx with
      | pt _ _ hx => cases hx; rfl
      | pf _ _ hx => cases hx; rfl
    rw [this]
    exact .own i
  | adr i off hn =>
    intro x hx
    cases hx with
    | adr _ _ b hb => exact .adr i off b (by simp [nameOf, hn, hb])
  | elt i esz k off hn =>
    intro x hx
    cases hx with
    | elt _ _ _ _ b n cap hb => exact .elt i esz k off b n cap (by simp [nameOf, hn, hb])
  | le fr c d hcd =>
    intro x hx
    cases hx with
    | pt _ _ hx => exact .pt _ _ ((hx.mono fun b hb _ => ⟨rfl, hF b hb⟩).le hcd)
    | pf _ _ hx => exact .pf _ _ ((hx.mono fun b hb _ => ⟨rfl, hZ b hb⟩).le hcd)
  | leo fr c d hcd =>
    intro x hx
    cases hx with
    | pt _ _ hx => exact .pf _ _ ((hx.mono fun b hb _ => ⟨rfl, hFZ b (hF b hb)⟩).le hcd)
    | pf _ _ hx => exact .pf _ _ ((hx.mono fun b hb _ => ⟨rfl, hZ b hb⟩).le hcd)
  | frz i fr esz n g d ho hk hd =>
    intro x hx
    cases hx
    have hob := hm.obs i _ ho
    cases fr
    · exact .pf _ _ ((hob.frozen (fun b hb _ => hZ b (by simpa using hb)) (fun b hb => hFZ b (hnew i _ ho hk b hb))).le hd)
    · exact .pt _ _ ((hob.frozen (fun b hb _ => hF b (by simpa using hb)) (fun b hb => hnew i _ ho hk b hb)).le hd)
  | frz' i fr esz n g d ho hk hd =>
    intro x hx
    cases hx
    have hob := hm.obs i _ ho
    refine .pf _ _ ((hob.frozen (fun b hb _ => ?_) (fun b hb => hFZ b (hnew i _ ho hk b hb))).le hd)
    cases fr
    · exact hZ b (by simpa using hb)
    · exact hFZ b (hF b (by simpa using hb))
  | ag cs ds hl h ih =>
    intro x hx
    cases hx with
    | ag _ xs h1 h2 =>
      refine .ag ds xs (h1.trans hl) fun j d hj => ?_
      have hlt : j < cs.length := by rw [hl]; exact (List.getElem?_eq_some_iff.1 hj).1
      exact ih j _ d (List.getElem?_eq_getElem hlt) hj _ (h2 j _ (List.getElem?_eq_getElem hlt))
  | tp cs ds hl h ih =>
    intro x hx
    cases hx with
    | tp _ xs h1 h2 =>
      refine .tp ds xs (h1.trans hl) fun j d hj => ?_
      have hlt : j < cs.length := by rw [hl]; exact (List.getElem?_eq_some_iff.1 hj).1
      exact ih j _ d (List.getElem?_eq_getElem hlt) hj _ (h2 j _ (List.getElem?_eq_getElem hlt))
  | cl f es bs cs ds hl hl2 h h' ih ih' =>
    intro x hx
    cases hx with
    | cl _ _ _ fs xs h1 h2 h3 h4 =>
      refine .cl f bs ds fs xs (h1.trans hl) (h2.trans hl2) (fun j d hj => ?_) (fun j d hj => ?_)
      · have hlt : j < es.length := by rw [hl]; exact (List.getElem?_eq_some_iff.1 hj).1
        exact ih j _ d (List.getElem?_eq_getElem hlt) hj _ (h3 j _ (List.getElem?_eq_getElem hlt))
      · have hlt : j < cs.length := by rw [hl2]; exact (List.getElem?_eq_some_iff.1 hj).1
        exact ih' j _ d (List.getElem?_eq_getElem hlt) hj _ (h4 j _ (List.getElem?_eq_getElem hlt))
theorem Models.weak (hm : Models cx ι s a w) {s' : St} {ρ : Nat → Nat} {nw : Nat → Bool} (h : StLe s s' ρ nw) : Models cx (nameOf ι ρ nw) s' a w := by
  have hobs : ∀ j o', s'.obj j = some o' → nw j = false → ∃ o, s.obj (ρ j) = some o := by
    intro j o' h1 hj
    rcases h.obs j o' h1 with ⟨_, o, h3, _⟩ | ⟨h2, _⟩
    · exact ⟨o, h3⟩
    · rw [hj] at h2; cases h2
  have hin : ∀ b, inH (nameOf ι ρ nw) s' b → inH ι s b := by
    rintro b ⟨j, o', h1, h2⟩
    cases hj : nw j with
    | true => simp [nameOf, hj, blk] at h2
    | false =>
      obtain ⟨o, h3⟩ := hobs j o' h1 hj
      simp only [nameOf, hj] at h2
      exact ⟨ρ j, o, h3, h2⟩
  have hF : ∀ b, zF cx ι s b → zF cx (nameOf ι ρ nw) s' b := fun b hb => ⟨hb.1, fun e => hb.2 (hin b e)⟩
  have hZ : ∀ b, zZ cx ι s b → zZ cx (nameOf ι ρ nw) s' b := fun b hb => ⟨hb.1, fun e => hb.2 (hin b e)⟩
  have key := AvLe.rep hm (s' := s') (ρ := ρ) (nw := nw) hobs
  have hFZ : ∀ b, zF cx (nameOf ι ρ nw) s' b → zZ cx (nameOf ι ρ nw) s' b := fun b hb => ⟨.inr hb.1, hb.2⟩
  exact {
    defers := hm.defers
    size := hm.size
    env := fun t => key _ _ (h.env t) _ (hm.env t)
    obs := fun j o' ho' => by
      rcases h.obs j o' ho' with ⟨hj, o, h3, hle⟩ | ⟨hj, fr, esz, g, rfl⟩
      · have hob := hm.obs (ρ j) o h3
        have hname : nameOf ι ρ nw j = ι (ρ j) := by simp [nameOf, hj]
        rw [hname]
        cases hle with
        | box cs ds hl hc =>
          obtain ⟨b, c, t, h4, h5, h6, h7⟩ := hob
          refine ⟨b, c, t, h4, h5, h6.trans hl, fun k d hk => ?_⟩
          have hlt : k < cs.length := by rw [hl]; exact (List.getElem?_eq_some_iff.1 hk).1
          exact key _ _ (hc k _ d (List.getElem?_eq_getElem hlt) hk) _ (h7 k _ (List.getElem?_eq_getElem hlt))
        | row fr esz n n' g g' e hle =>
          subst e
          rcases hob with h8 | ⟨b, cap, c, t, h4, h5, h6, h7, h9⟩
          · exact .inl h8
          · refine .inr ⟨b, cap, c, t, h4, h5, h6, h7, fun i k hi hk => ?_⟩
            have := h9 i k hi hk
            cases fr
            · exact (this.mono fun b hb _ => ⟨rfl, hZ b (by simpa using hb)⟩).le (hle i k hi hk)
            · exact (this.mono fun b hb _ => ⟨rfl, hF b (by simpa using hb)⟩).le (hle i k hi hk)
        | old fr esz n n' g g' e hle =>
          subst e
          rcases hob with h8 | ⟨b, cap, c, t, h4, h5, h6, h7, h9⟩
          · exact .inl h8
          · refine .inr ⟨b, cap, c, t, h4, h5, h6, h7, fun i k hi hk => ?_⟩
            have := h9 i k hi hk
            cases fr
            · exact (this.mono fun b hb _ => ⟨rfl, hZ b (by simpa using hb)⟩).le (hle i k hi hk)
            · exact (this.mono fun b hb _ => ⟨rfl, hFZ b (hF b (by simpa using hb))⟩).le (hle i k hi hk)
      · exact .inl ⟨by simp [nameOf, hj], rfl⟩
    dj := fun j o j' o' b h1 h2 e e' => by
      cases hj : nw j with
      | true => simp [nameOf, hj, blk] at e
      | false =>
        cases hj' : nw j' with
        | true => simp [nameOf, hj', blk] at e'
        | false =>
          simp only [nameOf, hj] at e
          simp only [nameOf, hj'] at e'
          obtain ⟨o1, h3⟩ := hobs j o h1 hj
          obtain ⟨o2, h4⟩ := hobs j' o' h2 hj'
          exact h.inj j o j' o' h1 h2 hj hj' (hm.dj _ _ _ _ b h3 h4 e e')
    new := fun b hb => hm.new b (hin b hb)
    ext := hm.ext
    gl := fun g c hg => (hm.gl g c hg).mono fun b hb _ => ⟨rfl, hZ b hb⟩ }
end
end Go.Fw
