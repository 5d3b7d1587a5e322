/- Cells that go into rows; struct values; with no condition. -/
import Derived.Test.YtigaelckdbeecaaGreatDoorGw8
import Derived.Great.BuildSlice
namespace Go.Gw
open Go
set_option linter.unusedVariables false
set_option linter.unusedSimpArgs false
def Mode.le : Mode → Mode → Prop
  | .z, _ => True
  | .f, .z => False
  | .f, _ => True
  | .u, .u => True
  | .u, _ => False
theorem Mode.min_le1 (a b : Mode) : (a.min b).le a := by cases a <;> cases b <;> simp [Mode.min, Mode.le]
theorem Mode.min_le2 (a b : Mode) : (a.min b).le b := by cases a <;> cases b <;> simp [Mode.min, Mode.le]
theorem Mode.le_refl (a : Mode) : a.le a := by cases a <;> simp [Mode.le]
theorem Mode.le_trans {a b c : Mode} (h : a.le b) (k : b.le c) : a.le c := by cases a <;> cases b <;> cases c <;> simp_all [Mode.le]
theorem EltOk.weak {m M : Mode} {F F' Z Z' S S' : Nat → Prop} {q q' : Nat → Option (Nat × Nat)} {ι ι' : Nat → Value} {hl hl' : List (Nat × Nat × Nat)} {w w' : World} {i j i' j' : Nat} {c : PV} {v : Value}
    (hle : M.le m) (hnil : M ≠ .u → hl = [])
    (hF : ∀ b, F b → b < w.heap.size → w'.heap[b]? = w.heap[b]? ∧ F' b)
    (hZ : ∀ b, Z b → b < w.heap.size → w'.heap[b]? = w.heap[b]? ∧ Z' b) (hFZ : ∀ b, F' b → Z' b) (hFZ0 : ∀ b, F b → Z b)
    (hS : ∀ b, S b → q b = some (i, j) → b < w.heap.size → w'.heap[b]? = w.heap[b]? ∧ (M = .u → S' b ∧ q' b = some (i', j')) ∧ (M ≠ .u → F' b))
    (hi : ∀ d, hole hl i j = some d → ι' d = ι d) (hh : M = .u → hole hl' i' j' = hole hl i j)
    (h : EltOk m F Z S q ι hl w i j c v) : EltOk M F' Z' S' q' ι' hl' w' i' j' c v := by
  cases M with
  | u =>
    cases m with
    | u =>
      simp only [EltOk] at h ⊢
      rw [hh rfl]
      cases hd : hole hl i j with
      | some d => simp only [hd] at h ⊢; rw [hi d hd]; exact h
      | none =>
        simp only [hd] at h ⊢
        exact h.mono fun b hb hl => ⟨(hS b hb.1 hb.2 hl).1, (hS b hb.1 hb.2 hl).2.1 rfl⟩
    | f => exact hle.elim
    | z => exact hle.elim
  | f =>
    have := hnil (by simp)
    subst this
    cases m with
    | u =>
      simp only [EltOk, hole] at h ⊢
      exact RepP.mono (Z := fun b => (S b ∧ q b = some (i, j)) ∧ b < w.heap.size) (fun b hb hl => ⟨(hS b hb.1.1 hb.1.2 hl).1, (hS b hb.1.1 hb.1.2 hl).2.2 (by simp)⟩) (h.toP fun b hb hl => ⟨hb, hl⟩)
    | f => exact RepP.mono hF h
    | z => exact hle.elim
  | z =>
    have := hnil (by simp)
    subst this
    cases m with
    | u =>
      simp only [EltOk, hole] at h ⊢
      exact RepP.mono (Z := fun b => (S b ∧ q b = some (i, j)) ∧ b < w.heap.size) (fun b hb hl => ⟨(hS b hb.1.1 hb.1.2 hl).1, hFZ b ((hS b hb.1.1 hb.1.2 hl).2.2 (by simp))⟩) (h.toP fun b hb hl => ⟨hb, hl⟩)
    | f => exact RepP.mono (fun b hb hl => hZ b (hFZ0 b hb) hl) h
    | z => exact RepP.mono hZ h
section
variable {P : Program} {cx : Cx} {ι : Nat → Value} {ow : Nat → Option Nat} {s : St} {a : Act} {w : World} {d : Nat}
theorem pc_elt (hm : Models cx ι ow s a w) {ι' : Nat → Value} {ow' : Nat → Option Nat} {w' : World} {M : Mode} {t i k : Nat} {q' : Nat → Option (Nat × Nat)} {hl' : List (Nat × Nat × Nat)}
    (hF : ∀ b, zF cx ow b → b < w.heap.size → w'.heap[b]? = w.heap[b]? ∧ zF cx ow' b) (hZ : ∀ b, zZ cx ow b → b < w.heap.size → w'.heap[b]? = w.heap[b]? ∧ zZ cx ow' b)
    {c : AV} {v : Value} (hr : RepA (zF cx ow) (zZ cx ow) ι w c v) {m : Mode} {x : PV} {dd : List Nat} (hp : c.pc s.obj = some (m, x, dd)) (hM : M.le m)
    (hdd : ∀ j ∈ dd, ∀ b, b < w.heap.size → ow b = some j → w'.heap[b]? = w.heap[b]? ∧ (M = .u → ow' b = some t ∧ q' b = some (i, k)) ∧ (M ≠ .u → zF cx ow' b))
    (hh : hole hl' i k = none) : EltOk M (zF cx ow') (zZ cx ow') (fun b => ow' b = some t) q' ι' hl' w' i k x v := by
  unfold AV.pc at hp
  split at hp
  · rename_i fr c
    split at hp
    · simp only [Option.some.injEq, Prod.mk.injEq] at hp
      obtain ⟨hmm, rfl, rfl⟩ := hp
      rw [rep_p] at hr
      have hz : RepP (zZ cx ow') w' c v := by
        cases fr with
        | true => exact RepP.mono (fun b hb hl => ⟨(hF b (by simpa using hb) hl).1, zFZ (hF b (by simpa using hb) hl).2⟩) hr
        | false => exact RepP.mono (fun b hb hl => hZ b (by simpa using hb) hl) hr
      cases M with
      | z => exact hz
      | f =>
        cases c with
        | v y => cases hr; exact RepP.v _
        | _ =>
          cases fr with
          | true => exact RepP.mono (fun b hb hl => hF b (by simpa using hb) hl) hr
          | false => simp at hmm; subst hmm; exact hM.elim
      | u =>
        cases c with
        | v y => simp only [EltOk, hh]; cases hr; exact .v _ _
        | _ => cases fr <;> simp at hmm <;> subst hmm <;> exact hM.elim
    · cases hp
  · rename_i j
    split at hp
    · rename_i mm nn e n g ho
      simp only [Option.some.injEq, Prod.mk.injEq] at hp
      obtain ⟨rfl, rfl, rfl⟩ := hp
      cases hr
      have hob := hm.obs j _ ho
      have hd := hdd j (List.mem_singleton.2 rfl)
      cases M with
      | u =>
        cases mm with
        | u =>
          simp only [EltOk, hh]
          exact (rowU_iff.1 hob).mono fun b hb hl => ⟨(hd b hl hb).1, (hd b hl hb).2.1 rfl⟩
        | f => exact hM.elim
        | z => exact hM.elim
      | f =>
        have h1 : RepP (fun b => b < w.heap.size ∧ (zF cx ow b ∨ ow b = some j)) w (.sl nn e n g) (ι j) := hob.frozen (fun b hb hl => ⟨hl, .inl (by
          cases mm with
          | z => exact hM.elim
          | f => exact hb
          | u => exact hb.elim)⟩) (fun b hb hl => ⟨hl, .inr hb⟩)
        refine RepP.mono (fun b hb hl => ?_) h1
        rcases hb.2 with h | h
        · exact hF b h hl
        · exact ⟨(hd b hl h).1, (hd b hl h).2.2 (by simp)⟩
      | z =>
        have h1 : RepP (fun b => b < w.heap.size ∧ (zZ cx ow b ∨ ow b = some j)) w (.sl nn e n g) (ι j) := hob.frozen (fun b hb hl => ⟨hl, .inl (by
          cases mm with
          | z => exact hb
          | f => exact zFZ hb
          | u => exact hb.elim)⟩) (fun b hb hl => ⟨hl, .inr hb⟩)
        refine RepP.mono (fun b hb hl => ?_) h1
        rcases hb.2 with h | h
        · exact hZ b h hl
        · exact ⟨(hd b hl h).1, zFZ ((hd b hl h).2.2 (by simp))⟩
    · cases hp
  · cases hp
theorem pc_one {c : AV} {m : Mode} {x : PV} {dd : List Nat} (hp : c.pc s.obj = some (m, x, dd)) : c.one s.obj = true := by
  unfold AV.pc at hp
  split at hp
  · split at hp
    · rename_i h; exact h
    · cases hp
  · split at hp
    · rename_i h; simp [AV.one, h]
    · cases hp
  · cases hp
theorem pv_one {Z : Nat → Prop} {c : PV} {x : Value} (h : RepP Z w c x) (h1 : c.one = true) : x.oneCell' = true ∧ x.cells = #[x] := by
  induction h with
  | v x => cases x <;> simp_all [PV.one, Value.oneCell', Value.cells]
  | any => simp [PV.one] at h1
  | nm x c h ih => exact ih (by simpa [PV.one] using h1)
  | _ => exact ⟨rfl, rfl⟩
theorem one_cell (hm : Models cx ι ow s a w) {c : AV} {v : Value} (h : RepA (zF cx ow) (zZ cx ow) ι w c v) (h1 : c.one s.obj = true) : v.oneCell' = true ∧ v.cells = #[v] := by
  cases h with
  | pt c x h => exact pv_one h (by simpa [AV.one] using h1)
  | pf c x h => exact pv_one h (by simpa [AV.one] using h1)
  | own i =>
    have := own_one hm (by simpa [AV.one] using h1)
    refine ⟨this, ?_⟩
    cases hv : ι i <;> simp_all [Value.oneCell', Value.cells]
  | adr => exact ⟨rfl, rfl⟩
  | elt => exact ⟨rfl, rfl⟩
  | vw => simp [AV.one] at h1
  | ag => simp [AV.one] at h1
  | tp => simp [AV.one] at h1
  | cl => exact ⟨rfl, rfl⟩
theorem cells_rep (hm : Models cx ι ow s a w) {c : AV} {x : Value} (h : RepA (zF cx ow) (zZ cx ow) ι w c x) (h1 : (c.cells.all fun e => e.one s.obj) = true) :
    x.cells.size = c.cells.length ∧ (∀ v ∈ x.cells.toList, v.oneCell' = true) ∧ ∀ j e, c.cells[j]? = some e → RepA (zF cx ow) (zZ cx ow) ι w e (x.cells.getD j undef) := by
  have one : c.cells = [c] → c.one s.obj = true → x.cells.size = c.cells.length ∧ (∀ v ∈ x.cells.toList, v.oneCell' = true) ∧ ∀ j e, c.cells[j]? = some e → RepA (zF cx ow) (zZ cx ow) ι w e (x.cells.getD j undef) := by
    intro hc h1
    obtain ⟨h2, h3⟩ := one_cell hm h h1
    rw [hc, h3]
    refine ⟨rfl, fun v hv => by simp at hv; rw [hv]; exact h2, fun j e hj => ?_⟩
    cases j with
    | zero => simp at hj; subst hj; exact h
    | succ j => simp at hj
  cases c with
  | ag cs =>
    cases h with
    | ag _ xs h2 h3 =>
      refine ⟨h2, fun v hv => ?_, h3⟩
      obtain ⟨j, hj, rfl⟩ := List.mem_iff_getElem.1 hv
      have hj' : j < cs.length := by rw [← h2]; simpa [Value.cells] using hj
      have h4 := one_cell hm (h3 j _ (List.getElem?_eq_getElem hj')) (by rw [List.all_eq_true] at h1; exact h1 _ (List.getElem_mem _))
      have e : xs.getD j undef = (Value.agg xs).cells.toList[j] := by
        simp only [Value.cells, Array.length_toList] at hj
        simp [Value.cells, Array.getD_eq_getD_getElem?, hj]
      rw [← e]
      exact h4.1
  | _ => exact one rfl (by simpa [AV.cells] using h1)
theorem pcl_one : ∀ {l : List (Nat × Nat × AV)} {m : Mode} {xs : List (Nat × Nat × PV)} {mv : List (Nat × (Nat × Nat))}, pcl s.obj l = some (m, xs, mv) → ∀ x ∈ l, x.2.2.one s.obj = true
  | [], _, _, _, _, x, hx => by cases hx
  | (k, j, c) :: r, m, xs, mv, h, x, hx => by
    simp only [pcl] at h
    split at h
    · rename_i m1 x1 d1 m2 xs2 mv2 h1 h2
      rcases List.mem_cons.1 hx with rfl | hx
      · exact pc_one h1
      · exact pcl_one h2 x hx
    · cases h
theorem posn_mem {k : Nat} : ∀ {l : List AV} {off : Nat} {c : AV}, c ∈ l → ∃ j, (k, j, c) ∈ posn k off l
  | d :: l, off, c, h => by
    rcases List.mem_cons.1 h with rfl | h
    · exact ⟨off, List.mem_cons_self⟩
    · obtain ⟨j, hj⟩ := posn_mem (off := off + 1) h
      exact ⟨j, List.mem_cons_of_mem _ hj⟩
theorem posn_set {M : Mode} {E : Nat → Nat → PV → Value → Prop} {k : Nat} {mvAll : List (Nat × (Nat × Nat))} (J : Nat → Prop)
    (hcell : ∀ (c : AV) (v : Value) (m : Mode) (x : PV) (dd : List Nat) (j : Nat), J j → RepA (zF cx ow) (zZ cx ow) ι w c v → c.pc s.obj = some (m, x, dd) → M.le m → (∀ i ∈ dd, (i, (k, j)) ∈ mvAll) → E k j x v) :
    ∀ (cs : List AV) (off : Nat) (vals : Nat → Value) (m : Mode) (xs : List (Nat × Nat × PV)) (mv : List (Nat × (Nat × Nat))) (g : Nat → Nat → PV) (val : Nat → Nat → Value),
      (∀ j c, cs[j]? = some c → RepA (zF cx ow) (zZ cx ow) ι w c (vals j)) → pcl s.obj (posn k off cs) = some (m, xs, mv) → M.le m → (∀ y ∈ mv, y ∈ mvAll) →
      (∀ a b, (a = k ∧ off ≤ b ∧ b < off + cs.length) ∨ E a b (g a b) (val a b)) → (∀ b, off ≤ b → b < off + cs.length → J b) →
      ∀ a b, E a b (setG xs g a b) (if a = k ∧ off ≤ b ∧ b < off + cs.length then vals (b - off) else val a b)
  | [], off, vals, m, xs, mv, g, val, hr, hp, hM, hmv, hb, _ => by
    simp only [posn, pcl, Option.some.injEq, Prod.mk.injEq] at hp
    obtain ⟨rfl, rfl, rfl⟩ := hp
    intro a b
    simp only [setG]
    rcases hb a b with h | h
    · have := h.2.1; have := h.2.2; simp only [List.length_nil] at this; omega
    · rw [if_neg (fun e => by have := e.2.1; have := e.2.2; simp only [List.length_nil] at this; omega)]; exact h
  | c :: cs, off, vals, m, xs, mv, g, val, hr, hp, hM, hmv, hb, hJ => by
    simp only [posn, pcl] at hp
    split at hp
    · rename_i m1 x1 d1 m2 xs2 mv2 h1 h2
      simp only [Option.some.injEq, Prod.mk.injEq] at hp
      obtain ⟨rfl, rfl, rfl⟩ := hp
      have hE := hcell c (vals 0) m1 x1 d1 off (hJ off (Nat.le_refl _) (by simp)) (hr 0 c rfl) h1 (Mode.le_trans hM (Mode.min_le1 _ _)) (fun i hi => hmv _ (List.mem_append_left _ (List.mem_map.2 ⟨i, hi, rfl⟩)))
      have := posn_set (M := M) (mvAll := mvAll) J hcell cs (off + 1) (fun j => vals (j + 1)) m2 xs2 mv2 (cellSet g k off x1) (fun a b => if a = k ∧ b = off then vals 0 else val a b)
        (fun j c hj => hr (j + 1) c (by simpa using hj)) h2 (Mode.le_trans hM (Mode.min_le2 _ _)) (fun y hy => hmv y (List.mem_append_right _ hy)) (fun a b => by
          by_cases h3 : a = k ∧ b = off
          · obtain ⟨rfl, rfl⟩ := h3
            exact .inr (by simp only [cellSet, and_self, if_true]; exact hE)
          · rcases hb a b with h4 | h4
            · simp only [List.length_cons] at h4
              refine .inl ⟨h4.1, ?_, by omega⟩
              have : b ≠ off := fun e => h3 ⟨h4.1, e⟩
              omega
            · exact .inr (by simp only [cellSet, if_neg (fun e : b = off ∧ a = k => h3 ⟨e.2, e.1⟩), if_neg h3]; exact h4)) (fun b h1 h2 => hJ b (by omega) (by simp only [List.length_cons]; omega))
      intro a b
      simp only [setG]
      have h5 := this a b
      have e : (if a = k ∧ off + 1 ≤ b ∧ b < off + 1 + cs.length then vals (b - (off + 1) + 1) else if a = k ∧ b = off then vals 0 else val a b) =
          (if a = k ∧ off ≤ b ∧ b < off + (c :: cs).length then vals (b - off) else val a b) := by
        simp only [List.length_cons]
        by_cases ha : a = k
        · subst ha
          by_cases h6 : b = off
          · subst h6
            rw [if_neg (fun e => by omega), if_pos ⟨rfl, rfl⟩, if_pos ⟨rfl, by omega, by omega⟩]
            simp
          · by_cases h7 : off + 1 ≤ b ∧ b < off + 1 + cs.length
            · rw [if_pos ⟨rfl, h7⟩, if_pos ⟨rfl, by omega, by omega⟩]
              congr 1
              omega
            · rw [if_neg (fun e => h7 e.2), if_neg (fun e => h6 e.2), if_neg (fun e => h7 ⟨by omega, by omega⟩)]
        · simp [ha]
      rw [← e]
      exact h5
    · cases hp
end
theorem pcl_append {ob : Nat → Option Ob} : ∀ (l1 l2 : List (Nat × Nat × AV)) {m : Mode} {xs : List (Nat × Nat × PV)} {mv : List (Nat × (Nat × Nat))}, pcl ob (l1 ++ l2) = some (m, xs, mv) →
    ∃ m1 xs1 mv1 m2 xs2 mv2, pcl ob l1 = some (m1, xs1, mv1) ∧ pcl ob l2 = some (m2, xs2, mv2) ∧ m.le m1 ∧ m.le m2 ∧ xs = xs1 ++ xs2 ∧ mv = mv1 ++ mv2
  | [], l2, m, xs, mv, h => ⟨.u, [], [], m, xs, mv, rfl, h, by cases m <;> simp [Mode.le], Mode.le_refl _, rfl, rfl⟩
  | (k, j, c) :: l1, l2, m, xs, mv, h => by
    simp only [List.cons_append, pcl] at h
    split at h
    · rename_i ma xa da mb xb mvb h1 h2
      simp only [Option.some.injEq, Prod.mk.injEq] at h
      obtain ⟨rfl, rfl, rfl⟩ := h
      obtain ⟨m1, xs1, mv1, m2, xs2, mv2, e1, e2, e3, e4, e5, e6⟩ := pcl_append l1 l2 h2
      refine ⟨ma.min m1, (k, j, xa) :: xs1, da.map (fun i => (i, (k, j))) ++ mv1, m2, xs2, mv2, ?_, e2, ?_, Mode.le_trans (Mode.min_le2 _ _) e4, by rw [e5]; rfl, by rw [e6, List.append_assoc]⟩
      · simp only [pcl, h1, e1]
      · have := Mode.min_le1 ma mb
        have := Mode.le_trans (Mode.min_le2 ma mb) e3
        revert this
        cases ma <;> cases mb <;> cases m1 <;> simp [Mode.le, Mode.min]
    · cases h
theorem setG_append : ∀ (l1 l2 : List (Nat × Nat × PV)) (g : Nat → Nat → PV), setG (l1 ++ l2) g = setG l2 (setG l1 g)
  | [], l2, g => rfl
  | (k, j, x) :: l1, l2, g => setG_append l1 l2 (cellSet g k j x)
def posOf (mv : List (Nat × (Nat × Nat))) (i : Nat) : Option (Nat × Nat) := (mv.find? fun x => x.1 == i).map Prod.snd
theorem posOf_mem' {i : Nat} {p : Nat × Nat} : ∀ {mv : List (Nat × (Nat × Nat))}, (mv.map Prod.fst).Nodup → (i, p) ∈ mv → posOf mv i = some p
  | (k, r) :: mv, hn, h => by
    simp only [List.map_cons, List.nodup_cons] at hn
    rcases List.mem_cons.1 h with e | h
    · cases e; simp [posOf]
    · have : ¬ k = i := fun e => hn.1 (e ▸ List.mem_map.2 ⟨_, h, rfl⟩)
      have := posOf_mem' hn.2 h
      unfold posOf at this ⊢
      simp only [List.find?_cons]
      rw [show (k == i) = false by simpa using ‹¬ k = i›]
      exact this
theorem posOf_mem {mv : List (Nat × (Nat × Nat))} (hn : nodupB (mv.map Prod.fst) = true) {i : Nat} {p : Nat × Nat} (h : (i, p) ∈ mv) : posOf mv i = some p :=
  posOf_mem' (nodupB_spec hn) h
theorem upd_delU (l : List Nat) (u : Upd) : ∀ s : St, s.upd (delU l ++ u) = (s.dels l).upd u := by
  induction l with
  | nil => intro s; rfl
  | cons j l ih => intro s; exact ih (s.delOb j)
theorem fill_one (off : Nat) : ∀ (l : List Value) (st : Nat) (cells : Array Value), off + st + l.length ≤ cells.size →
    ((l.zipIdx st).foldl (fun (cs : Array Value) (x : Value × Nat) => cs.setIfInBounds (off + x.2) x.1) cells).size = cells.size ∧
    ∀ k, ((l.zipIdx st).foldl (fun (cs : Array Value) (x : Value × Nat) => cs.setIfInBounds (off + x.2) x.1) cells).getD k undef = if off + st ≤ k ∧ k < off + st + l.length then l.getD (k - (off + st)) undef else cells.getD k undef
  | [], st, cells, h => by simp; omega
  | v :: l, st, cells, h => by
    simp only [List.length_cons] at h
    simp only [List.zipIdx_cons, List.foldl_cons]
    obtain ⟨h1, h2⟩ := fill_one off l (st + 1) (cells.setIfInBounds (off + st) v) (by simp; omega)
    refine ⟨by rw [h1]; simp, fun k => ?_⟩
    rw [h2, getD_set]
    simp only [List.length_cons]
    by_cases h3 : off + st = k
    · subst h3
      rw [if_neg (by omega), if_pos ⟨rfl, by omega⟩, if_pos ⟨by omega, by omega⟩]
      simp
    · by_cases h4 : off + (st + 1) ≤ k ∧ k < off + (st + 1) + l.length
      · rw [if_pos h4, if_pos ⟨by omega, by omega⟩]
        rw [show k - (off + st) = (k - (off + (st + 1))) + 1 by omega]
        simp
      · rw [if_neg h4, if_neg (fun e => h3 e.1), if_neg (by omega)]
def layAt (cells : Array Value) (off : Nat) (v : Value) : Array Value := v.cells.zipIdx.foldl (fun cs x => cs.setIfInBounds (off + x.2) x.1) cells
theorem layAt_spec {cells : Array Value} {off : Nat} {v : Value} (h : off + v.cells.size ≤ cells.size) :
    (layAt cells off v).size = cells.size ∧ ∀ k, (layAt cells off v).getD k undef = if off ≤ k ∧ k < off + v.cells.size then v.cells.getD (k - off) undef else cells.getD k undef := by
  have := fill_one off v.cells.toList 0 cells (by simpa using h)
  have e : layAt cells off v = (v.cells.toList.zipIdx 0).foldl (fun (cs : Array Value) (x : Value × Nat) => cs.setIfInBounds (off + x.2) x.1) cells := by
    unfold layAt
    rw [← Array.foldl_toList]
    congr 1
    simp
  rw [e]
  refine ⟨this.1, fun k => ?_⟩
  rw [this.2]
  simp [List.getD, Array.getD_eq_getD_getElem?]
theorem fill_cons {place : Nat → Option (Nat × Nat)} {cells : Array Value} {i : Nat} {v : Value} {rest : List (Nat × Value)} {off n : Nat} (hp : place i = some (off, n)) (h1 : v.cells.size = n) (h2 : off + n ≤ cells.size) :
    Instr.fill place cells ((i, v) :: rest) = Instr.fill place (layAt cells off v) rest := by
  simp only [Instr.fill, hp]
  rw [if_neg (by simp [h1]; omega)]
  rfl
end Go.Gw
namespace Go.Gw
open Go
set_option linter.unusedVariables false
set_option linter.unusedSimpArgs false
def owNew (ow : Nat → Option Nat) (B d : Nat) (dead : List Nat) (M : Mode) (b : Nat) : Option Nat :=
  if b = B then some d else match ow b with
    | some i => if i ∈ dead then (if M = .u then some d else none) else some i
    | none => none
section
variable {P : Program} {cx : Cx} {ι : Nat → Value} {ow : Nat → Option Nat} {s : St} {a : Act} {w : World} {d : Nat}
theorem Models.newObj (hm : Models cx ι ow s a w) (hd : s.noid d) {dead : List Nat} {M : Mode} {w' : World} {B : Nat} (hg : Grows w w') (hB : w.heap.size ≤ B) (x : Value) (ob : Ob)
    (hob : (∀ b, zF cx ow b → b < w.heap.size → w'.heap[b]? = w.heap[b]? ∧ zF cx (owNew ow B d dead M) b) → (∀ b, zZ cx ow b → b < w.heap.size → w'.heap[b]? = w.heap[b]? ∧ zZ cx (owNew ow B d dead M) b) →
      ObOk (zF cx (owNew ow B d dead M)) (zZ cx (owNew ow B d dead M)) (fun b => owNew ow B d dead M b = some d) (fun t => if t = d then x else ι t) w' x ob) :
    Models cx (fun t => if t = d then x else ι t) (owNew ow B d dead M) ((s.dels dead).setOb d ob) a w' := by
  refine hm.change (env_dels dead s) (fun t => ?_) (fun b hl ho => ⟨?_, hg.same hl⟩) (fun b t ht => ?_) hg.os hg.tape hg.output hg.drawn hg.size fun t o ht => ?_
  · by_cases h : t = d
    · exact .inr (h ▸ hd)
    · exact .inl (by simp [h])
  · have : b ≠ B := by omega
    simp [owNew, this, ho]
  · unfold owNew at ht
    split at ht
    · rename_i hb
      cases ht
      exact ⟨by rw [St.obj_setOb, if_pos rfl]; rfl, .inr (by have := hm.ext.size; omega)⟩
    · split at ht
      · rename_i i hi
        obtain ⟨h1, h2⟩ := hm.dom b i hi
        split at ht
        · split at ht
          · cases ht; exact ⟨by rw [St.obj_setOb, if_pos rfl]; rfl, h2⟩
          · cases ht
        · rename_i hnd
          cases ht
          refine ⟨?_, h2⟩
          rw [St.obj_setOb]
          split
          · rfl
          · rw [obj_dels, if_neg hnd]; exact h1
      · cases ht
  · rw [St.obj_setOb] at ht
    split at ht
    · rename_i hdt
      subst hdt
      cases ht
      refine .inr fun hF hZ _ => ?_
      simp only [if_true]
      exact hob hF hZ
    · rename_i hdt
      rw [obj_dels] at ht
      split at ht
      · cases ht
      · rename_i hnd
        refine .inl ⟨if_neg fun e => hdt e.symm, ht, fun b hl hb => ⟨?_, hg.same hl⟩⟩
        have : b ≠ B := by omega
        simp [owNew, this, hb, hnd]
theorem sound_box {t : TypeId} {n : Nat} {x : Operand} : Sound P cx (.box t x) (.box n x) := by
  intro det ι ow s a w d K hm h hfr o ho next Q hnx
  simp only [IOp.opds, List.map_cons, List.map_nil, res, Cnd.holds, Bool.and_eq_true, decide_eq_true_eq] at h
  obtain ⟨⟨_, h1⟩, _, h⟩ := h
  have hd := hfr d (by simp [IOp.fresh])
  obtain ⟨h2, _, h3⟩ := cells_rep hm (eval_rep hm x) h1
  unfold Oper.wp
  have : (execOp a.eval o).run P w = .ok (.value (.pointer (some ⟨w.heap.size, 0, none⟩))) (w.alloc (.cells (a.eval x).cells t)) := by
    simp [execOp, ho, Instr.box, newVar, newRow]
  rw [this, Oper.upon_value]
  have hm' := hm.newObj (dead := []) (M := .u) hd (Grows.alloc w (.cells (a.eval x).cells t)) (Nat.le_refl _) (.pointer (some ⟨w.heap.size, 0, none⟩)) (.box (opd cx.G s x).cells) (fun hF hZ => by
    refine ⟨w.heap.size, (a.eval x).cells, t, rfl, by simp [owNew], (by show (w.heap.push _)[w.heap.size]? = _; simp), h2, fun j c hj => ?_⟩
    refine (h3 j c hj).mono hF hZ fun i hi => ?_
    have hno : (opd cx.G s x).noid d = true := opd_noid hd x
    have : c.noid d = true := by
      have hc : ∀ (e : AV), e.noid d = true → ∀ (j : Nat) (c : AV), e.cells[j]? = some c → c.noid d = true := by
        intro e he j c hj
        cases e with
        | ag cs =>
          simp only [AV.noid] at he
          exact noids_get he hj
        | _ =>
          simp only [AV.cells] at hj
          cases j with
          | zero => simp at hj; exact hj ▸ he
          | succ j => simp at hj
      exact hc _ hno j c hj
    rw [if_neg (fun e => by rw [e] at hi; rw [this] at hi; cases hi)])
  refine hnx _ _ _ _ _ _ h (hm'.same (fun t => rfl) fun i => ?_) (.adr d 0 w.heap.size (by simp))
  rfl
theorem sound_alloc {t : TypeId} {z : Value} {i : TypeInfo} (hi : P.info? t = some i) (hz : i.zero = some z) : Sound P cx (.alloc t) (.alloc z.cells.toList) := by
  intro det ι ow s a w d K hm h hfr o ho next Q hnx
  simp only [IOp.opds, List.map_nil, res, Cnd.holds] at h
  have hd := hfr d (by simp [IOp.fresh])
  unfold Oper.wp
  have : (execOp a.eval o).run P w = .ok (.value (.pointer (some ⟨w.heap.size, 0, none⟩))) (w.alloc (.cells z.cells t)) := by
    simp [execOp, ho, Instr.alloc, newVar, newRow, zeroValue, typeInfo, hi, hz]
  rw [this, Oper.upon_value]
  have hm' := hm.newObj (dead := []) (M := .u) hd (Grows.alloc w (.cells z.cells t)) (Nat.le_refl _) (.pointer (some ⟨w.heap.size, 0, none⟩)) (.box (z.cells.toList.map fun v => .p true (.v v))) (fun hF hZ => by
    refine ⟨w.heap.size, z.cells, t, rfl, by simp [owNew], (by show (w.heap.push _)[w.heap.size]? = _; simp), by simp, fun j c hj => ?_⟩
    simp only [List.getElem?_map, Option.map_eq_some_iff, Array.getElem?_toList] at hj
    obtain ⟨v, hv, rfl⟩ := hj
    have : z.cells.getD j undef = v := by simp [Array.getD_eq_getD_getElem?, hv]
    rw [this]
    exact rep_mkv _)
  exact hnx _ _ _ _ _ _ h.2.2 (hm'.same (fun t => rfl) fun i => rfl) (.adr d 0 w.heap.size (by simp))
theorem fillA_spec (hm : Models cx ι ow s a w) {place : Nat → Option (Nat × Nat)} : ∀ (ps : List (Nat × Nat × AV)) (parts : List (Nat × Value)) (cells cells' : List AV) (vals : Array Value),
    ps.length = parts.length → (∀ (j : Nat) (p : Nat × Nat × AV) (q : Nat × Value), ps[j]? = some p → parts[j]? = some q → place q.1 = some (p.1, p.2.1) ∧ RepA (zF cx ow) (zZ cx ow) ι w p.2.2 q.2 ∧ (p.2.2.cells.all fun c => c.one s.obj) = true) →
    vals.size = cells.length → (∀ j c, cells[j]? = some c → RepA (zF cx ow) (zZ cx ow) ι w c (vals.getD j undef)) → fillA cells ps = some cells' →
    ∃ vals', Instr.fill place vals parts = some vals' ∧ vals'.size = cells'.length ∧ ∀ j c, cells'[j]? = some c → RepA (zF cx ow) (zZ cx ow) ι w c (vals'.getD j undef)
  | [], [], cells, cells', vals, _, _, hs, hr, h => by
    simp only [fillA, Option.some.injEq] at h
    subst h
    exact ⟨vals, rfl, hs, hr⟩
  | (off, n, c) :: ps, (i, v) :: parts, cells, cells', vals, hl, hall, hs, hr, h => by
    simp only [fillA] at h
    split at h
    · rename_i hc
      obtain ⟨h1, h2⟩ := hc
      obtain ⟨h3, h4, h5⟩ := hall 0 _ _ rfl rfl
      obtain ⟨h6, h7, h8⟩ := cells_rep hm h4 h5
      have hvs : v.cells.size = n := h6.trans h1
      have hlay := layAt_spec (cells := vals) (off := off) (v := v) (by rw [hvs, hs]; exact h2)
      obtain ⟨vals', r1, r2, r3⟩ := fillA_spec hm (place := place) ps parts _ cells' (layAt vals off v) (by simpa using hl) (fun j p q hp hq => hall (j + 1) p q (by simpa using hp) (by simpa using hq)) (by rw [hlay.1, hs]; simp; omega) (fun j e hj => by
        rw [hlay.2 j, hvs]
        by_cases hj1 : j < off
        · rw [if_neg (by omega)]
          rw [List.append_assoc, List.getElem?_append_left (by simp; omega), List.getElem?_take_of_lt hj1] at hj
          exact hr j e hj
        · by_cases hj2 : j < off + n
          · rw [if_pos ⟨by omega, hj2⟩]
            rw [List.append_assoc, List.getElem?_append_right (by simp; omega), List.getElem?_append_left (by simp; omega)] at hj
            have : j - (cells.take off).length = j - off := by simp; omega
            rw [this] at hj
            exact h8 _ e hj
          · rw [if_neg (by omega)]
            rw [List.getElem?_append_right (by simp; omega), List.getElem?_drop] at hj
            have : off + n + (j - (cells.take off ++ c.cells).length) = j := by simp; omega
            rw [this] at hj
            exact hr j e hj) h
      refine ⟨vals', ?_, r2, r3⟩
      rw [fill_cons h3 hvs (by rw [hs]; exact h2)]
      exact r1
    · cases h
theorem sound_build {t : TypeId} {z : Value} {it : TypeInfo} {fs : Array Field} {places : List (Nat × Nat)} {parts : Array (Nat × Operand)} {ps : List (Nat × Nat × Operand)}
    (hu : P.underlying t = some (.struct fs)) (hi : P.info? t = some it) (hz : it.zero = some z) (hpl : fs.toList.mapM (fun f => (P.info? f.type).map fun i => (f.offset, i.size)) = some places)
    (hps : parts.toList.mapM (fun p => (places[p.1]?).map fun q => (q.1, q.2, p.2)) = some ps) : Sound P cx (.build t parts) (.build z.cells.toList ps) :=
  .value fun _ ι ow s a w d K hm h => by
    simp only [IOp.opds, res] at h
    split at h
    · rename_i cs hf
      simp only [Cnd.holds, Bool.and_eq_true, decide_eq_true_eq] at h
      obtain ⟨⟨_, hone⟩, _, h⟩ := h
      -- the places of the parts
      have key : ∀ (l : List (Nat × Operand)) (qs : List (Nat × Nat × Operand)), l.mapM (fun p => (places[p.1]?).map fun q => (q.1, q.2, p.2)) = some qs →
          qs.length = l.length ∧ ∀ (j : Nat) (p : Nat × Operand) (q : Nat × Nat × Operand), qs[j]? = some q → l[j]? = some p → places[p.1]? = some (q.1, q.2.1) ∧ q.2.2 = p.2 := by
        intro l
        induction l with
        | nil => intro qs h; simp at h; subst h; exact ⟨rfl, fun j p q h => by simp at h⟩
        | cons x l ih =>
          intro qs h
          simp only [List.mapM_cons, Option.bind_eq_bind, Option.bind_eq_some_iff, Option.pure_def, Option.some.injEq, Option.map_eq_some_iff] at h
          obtain ⟨y, ⟨r, h1, rfl⟩, qs', h2, rfl⟩ := h
          obtain ⟨h3, h4⟩ := ih qs' h2
          refine ⟨by simp [h3], fun j p q hq hp => ?_⟩
          cases j with
          | zero => simp at hq hp; subst hq; subst hp; exact ⟨h1, rfl⟩
          | succ j => exact h4 j p q (by simpa using hq) (by simpa using hp)
      obtain ⟨k1, k2⟩ := key _ _ hps
      obtain ⟨vals', r1, r2, r3⟩ := fillA_spec hm (place := fun x => places.toArray[x]?) ((ps.zip ((ps.map fun p => p.2.2).map (opd cx.G s))).map fun x => (x.1.1, x.1.2.1, x.2)) (parts.toList.map fun p => (p.1, a.eval p.2)) _ cs z.cells (by simp [k1])
        (fun j p q hp hq => by
          simp only [List.getElem?_map, Option.map_eq_some_iff] at hp hq
          obtain ⟨y, hy, rfl⟩ := hp
          obtain ⟨p', hp', rfl⟩ := hq
          rw [List.getElem?_zip_eq_some] at hy
          obtain ⟨hy1, hy2⟩ := hy
          simp only [List.getElem?_map, Option.map_eq_some_iff] at hy2
          obtain ⟨x, ⟨y', hy', rfl⟩, hx⟩ := hy2
          rw [hy1] at hy'
          cases hy'
          obtain ⟨k3, k4⟩ := k2 j p' y.1 hy1 hp'
          refine ⟨by simpa using k3, ?_, ?_⟩
          · rw [← hx, ← k4]; exact eval_rep hm _
          · rw [List.all_eq_true] at hone
            exact hone _ (by rw [← hx]; exact List.mem_map.2 ⟨_, List.mem_map.2 ⟨_, List.mem_of_getElem? hy1, rfl⟩, rfl⟩)) (by simp) (fun j c hj => by
          simp only [List.getElem?_map, Option.map_eq_some_iff, Array.getElem?_toList] at hj
          obtain ⟨v, hv, rfl⟩ := hj
          have : z.cells.getD j undef = v := by simp [Array.getD_eq_getD_getElem?, hv]
          rw [this]
          exact rep_mkv _) hf
      refine ⟨_, .agg vals', h, .ag _ _ r2 r3, fun o ho => ?_⟩
      have hb : P.built t ((parts.map fun p => (p.1, a.eval p.2)).toList) = some vals' := by
        unfold Program.built
        simp only [hi, hu, hz, hpl, Array.toList_map]
        exact r1
      simp [execOp, ho, run_build w t _ vals' hb]
    · exact h.elim
theorem sound_fval {t : TypeId} {x : Operand} {i : Nat} {fs : Array Field} {f : Field} {td : TypeDesc} {n : Nat}
    (ht : P.underlying t = some (.struct fs)) (hf : fs[i]? = some f) (hft : P.underlying f.type = some td) (hn : (P.info? f.type).map (·.size) = some n) : Sound P cx (.field t x i) (.fval (aggD td) f.offset n x) :=
  .value fun _ ι ow s a w d K hm h => by
    simp only [IOp.opds, List.map_cons, List.map_nil, res] at h
    have h1 := eval_rep hm x
    split at h
    · rename_i cs hvs
      simp only [List.cons.injEq, and_true] at hvs
      rw [hvs] at h1
      generalize he : a.eval x = y at h1
      cases h1 with
      | ag _ xs h2 h3 =>
        split at h
        · rename_i hd
          simp only [Cnd.holds, decide_eq_true_eq] at h
          obtain ⟨hle, _, h⟩ := h
          refine ⟨_, .agg (xs.extract f.offset (f.offset + n)), h, .ag _ _ (by simp; omega) fun j c hj => ?_, fun o ho => ?_⟩
          · rw [List.getElem?_take] at hj
            split at hj
            · rename_i hjn
              have := h3 (f.offset + j) c (by simpa using hj)
              have e : (xs.extract f.offset (f.offset + n)).getD j undef = xs.getD (f.offset + j) undef := by
                simp only [Array.getD_eq_getD_getElem?, Array.getElem?_extract]
                rw [if_pos (by omega)]
              rw [e]; exact this
            · cases hj
          · simp [execOp, ho, he, Instr.field, run_underlying ht, hf, asAgg, part, run_agg hft, hd, run_size hn, show ¬ xs.size < f.offset + n by omega]
        · rename_i hd
          simp only [Cnd.holds, Bool.and_eq_true, decide_eq_true_eq] at h
          obtain ⟨⟨hle, rfl⟩, _, h⟩ := h
          refine ⟨_, xs.getD f.offset undef, h, h3 f.offset _ ?_, fun o ho => ?_⟩
          · simp [List.getD, List.getElem?_eq_getElem (show f.offset < cs.length by omega)]
          · have hlt : f.offset < xs.size := by omega
            simp [execOp, ho, he, Instr.field, run_underlying ht, hf, asAgg, part, run_agg hft, hd, hlt, Array.getD_eq_getD_getElem?]
    · exact h.elim
end
end Go.Gw
