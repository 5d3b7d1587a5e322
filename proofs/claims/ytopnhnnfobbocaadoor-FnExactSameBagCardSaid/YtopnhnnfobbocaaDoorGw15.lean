/- Appending: the operation; with no condition. -/
import Derived.Test.YtopnhnnfobbocaaDoorGw14
namespace Go.Gw
open Go
set_option linter.unusedVariables false
set_option linter.unusedSimpArgs false

theorem dels_append (l1 l2 : List Nat) : ∀ s : St, s.dels (l1 ++ l2) = (s.dels l1).dels l2 := by
  induction l1 with
  | nil => intro s; rfl
  | cons j l ih => intro s; exact ih (s.delOb j)

section
variable {P : Program} {cx : Cx} {ι : Nat → Value} {ow : Nat → Option Nat} {s : St} {a : Act} {w : World} {d : Nat}

/-- A row without elements. -/
theorem Models.emptyRow (hm : Models cx ι ow s a w) (hd : s.noid d) (dead : List Nat) {p : Option Addr} {m : Mode} {nn : Bool} {esz : Nat} {g : Nat → Nat → PV} {hl : List (Nat × Nat × Nat)} (h1 : p = none → nn = false) (h2 : ∀ ad, p = some ad → ad.spot = none) :
    ∃ ow', Models cx (fun t => if t = d then .slice p 0 0 else ι t) ow' ((s.dels dead).setOb d (.row m nn esz 0 g hl)) a w := by
  have hm1 := hm.dels dead
  refine ⟨fun b => match rel ow dead b with | some i => if i = d then none else some i | none => none, hm1.change rfl (fun t => ?_) (fun b _ hb => ⟨by simp [hb], rfl⟩) (fun b t ht => ?_) rfl rfl rfl (Nat.le_refl _) (Nat.le_refl _) (fun t o ht => ?_)⟩
  · by_cases ht : t = d
    · exact .inr (ht ▸ ⟨fun t => by rw [get_dels]; exact hd.1 t, fun i o hi => by rw [obj_dels] at hi; split at hi; cases hi; exact hd.2.1 i o hi, hd.2.2⟩)
    · exact .inl (by simp [ht])
  · split at ht
    · rename_i i hi
      split at ht
      · cases ht
      · cases ht
        obtain ⟨g1, g2⟩ := hm1.dom b t hi
        exact ⟨by rw [St.obj_setOb]; split; rfl; exact g1, g2⟩
    · cases ht
  · rw [St.obj_setOb] at ht
    split at ht
    · rename_i hdt
      subst hdt
      cases ht
      refine .inr fun _ _ _ => .inl ⟨rfl, ?_⟩
      simp only [if_true]
      cases p with
      | none => exact .inl ⟨h1 rfl, rfl⟩
      | some ad =>
        obtain ⟨b, off, sp⟩ := ad
        have := h2 _ rfl
        simp only at this
        subst this
        exact .inr ⟨b, off, rfl⟩
    · rename_i hdt
      refine .inl ⟨if_neg fun e => hdt e.symm, ht, fun b _ hb => ⟨?_, rfl⟩⟩
      simp only [hb]
      rw [if_neg fun e => hdt e.symm]

theorem own_self {F Z : Nat → Prop} {ι : Nat → Value} {w : World} {d : Nat} (x : Value) : RepA F Z (fun t => if t = d then x else ι t) w (.own d) x := by
  have := RepA.own (F := F) (Z := Z) (ι := fun t => if t = d then x else ι t) (w := w) d
  simp only [if_true] at this
  exact this

theorem cellAt {w : World} {b : Nat} {c : Array Value} {tt : TypeId} (h : w.heap[b]? = some (.cells c tt (0, 0))) {n : Nat} (hn : n ≤ c.size) : ∀ j v, (c.toList.take n)[j]? = some v → w.cell? ((⟨b, 0, none⟩ : Addr).add j) = some v := by
  intro j v hj
  rw [addr_add, Nat.zero_add]
  rw [List.getElem?_take] at hj
  split at hj
  · rename_i hlt
    rw [cell_of_row h (by omega)]
    simp only [Array.getElem?_toList] at hj
    simp [Array.getD_eq_getD_getElem?, hj]
  · cases hj

/-- Old cells and new ones in a block of their own. -/
theorem Models.grown (hm : Models cx ι ow s a w) (hd : s.noid d) {dead : List Nat} {j : Nat} {o0 : Option (Mode × (Nat → Nat → PV) × List (Nat × Nat × Nat) × (Nat → Option (Nat × Nat)))} {w' : World} {B cap n n' esz : Nat} {arr : Array Value} {tt : TypeId} {m m' M : Mode} {nn : Bool}
    {g g' : Nat → Nat → PV} {hl : List (Nat × Nat × Nat)} {q qs : Nat → Option (Nat × Nat)} {olds news : Nat → Value} (hg : Grows w w') (hB : w.heap.size ≤ B) (hb : w'.heap[B]? = some (.cells arr tt (0, 0)))
    (hM : M.le m) (hM' : M.le m') (hnil : M ≠ .u → hl = []) (hjd : j ∉ dead) (hcap : n + n' ≤ cap) (hsz : cap * esz ≤ arr.size) (hhl : ∀ x ∈ hl, x.1 < n) (hhd : ∀ x ∈ hl, x.2.2 ≠ d)
    (hold : ∀ p r, p < n → r < esz → EltOk m (zF cx ow) (zZ cx ow) (fun b => ow b = some j) q ι hl w p r (g p r) (olds (p * esz + r)))
    (hsrc : ∀ (ι' : Nat → Value) (ow' : Nat → Option Nat) (w' : World) (M : Mode) (t sh : Nat) (q' : Nat → Option (Nat × Nat)) (hl' : List (Nat × Nat × Nat)), M.le m' →
        (∀ b, zF cx ow b → b < w.heap.size → w'.heap[b]? = w.heap[b]? ∧ zF cx ow' b) → (∀ b, zZ cx ow b → b < w.heap.size → w'.heap[b]? = w.heap[b]? ∧ zZ cx ow' b) →
        (∀ j ∈ dead, ∀ b, b < w.heap.size → ow b = some j → ∀ r, qs b = some r → w'.heap[b]? = w.heap[b]? ∧ (M = .u → ow' b = some t ∧ q' b = some (sh + r.1, r.2)) ∧ (M ≠ .u → zF cx ow' b)) →
        (∀ i j, hole hl' (sh + i) j = none) →
        ∀ i j, i < n' → j < esz → EltOk M (zF cx ow') (zZ cx ow') (fun b => ow' b = some t) q' ι' hl' w' (sh + i) j (g' i j) (news (i * esz + j)))
    (harr1 : ∀ k, k < n * esz → arr.getD k undef = olds k) (harr2 : ∀ k, k < n' * esz → arr.getD (n * esz + k) undef = news k) :
    Models cx (fun t => if t = d then .slice (some ⟨B, 0, none⟩) (n + n') cap else ι t) (owNew ow B d (dead ++ [j]) M) ((s.dels (dead ++ [j])).setOb d (.row M nn esz (n + n') (fun a b => if a < n then g a b else g' (a - n) b) hl)) a w' := by
  refine hm.newObj hd hg hB (.slice (some ⟨B, 0, none⟩) (n + n') cap) _ fun hF hZ => ?_
  let q' : Nat → Option (Nat × Nat) := fun b => if b = B then none else match ow b with
    | some t => if t = j then q b else (qs b).map fun r => (n + r.1, r.2)
    | none => none
  refine .inr ⟨B, cap, arr, tt, q', rfl, by simp [owNew], hb, hcap, hsz, by simp [q'], fun p r hp hr => ?_⟩
  have hne : ∀ b, b < w.heap.size → b ≠ B := fun b h => by omega
  by_cases hpn : p < n
  · dsimp only
    rw [if_pos hpn, harr1 _ (idx_lt hpn hr)]
    refine EltOk.weak hM hnil hF hZ (fun _ h => zFZ h) (fun _ h => zFZ h) (fun b hb hqb hl1 => ?_) (fun d' hd' => ?_) (fun _ => rfl) (hold p r hpn hr)
    · have hb : ow b = some j := hb
      refine ⟨hg.same hl1, fun hu => ⟨?_, ?_⟩, fun hu => ⟨?_, (hm.dom b j hb).2⟩⟩
      · simp [owNew, hne b hl1, hb, hu]
      · simp only [q', hb]
        rw [if_neg (hne b hl1), if_pos trivial]; exact hqb
      · simp [owNew, hne b hl1, hb, hu]
    · rw [if_neg (hhd _ (hole_mem hd'))]
  · dsimp only
    rw [if_neg hpn]
    have h1 := hsrc (fun t => if t = d then .slice (some ⟨B, 0, none⟩) (n + n') cap else ι t) (owNew ow B d (dead ++ [j]) M) w' M d n q' hl hM' hF hZ (fun j' hj' b hl1 hb r' hr' => ?_) (fun i c => hole_none fun x hx e => by have := hhl x hx; omega) (p - n) r (by omega) hr
    · rw [show n + (p - n) = p by omega] at h1
      rw [show p * esz + r = n * esz + ((p - n) * esz + r) by rw [← Nat.add_assoc, ← Nat.add_mul, show n + (p - n) = p by omega]]
      rw [harr2 _ (idx_lt (by omega) hr)]
      exact h1
    · have hjj : j' ≠ j := fun e => hjd (e ▸ hj')
      refine ⟨hg.same hl1, fun hu => ⟨?_, ?_⟩, fun hu => ⟨?_, (hm.dom b j' hb).2⟩⟩
      · simp [owNew, hne b hl1, hb, hu, hj']
      · simp only [q', hb]
        rw [if_neg (hne b hl1), if_neg hjj, hr']; rfl
      · simp [owNew, hne b hl1, hb, hu, hj']

/-- Old cells and new ones in the old block. -/
theorem Models.filled (hm : Models cx ι ow s a w) (hd : s.noid d) {dead : List Nat} {j b0 : Nat} {o0 : Ob} {w' : World} {cap n n' esz : Nat} {arr : Array Value} {tt : TypeId} {m m' M : Mode} {nn : Bool}
    {g g' : Nat → Nat → PV} {hl : List (Nat × Nat × Nat)} {q qs : Nat → Option (Nat × Nat)} {olds news : Nat → Value} (ho : s.obj j = some o0) (hjdd : j ≠ d) (hb0 : ow b0 = some j) (hq0 : q b0 = none)
    (hos : w'.os = w.os) (htape : w'.tape = w.tape) (hout : w'.output = w.output) (hdrawn : w.drawn ≤ w'.drawn) (hsize : w.heap.size ≤ w'.heap.size) (hsame : ∀ b, b ≠ b0 → w'.heap[b]? = w.heap[b]?) (hb : w'.heap[b0]? = some (.cells arr tt (0, 0)))
    (hM : M.le m) (hM' : M.le m') (hnil : M ≠ .u → hl = []) (hjd : j ∉ dead) (hcap : n + n' ≤ cap) (hsz : cap * esz ≤ arr.size) (hhl : ∀ x ∈ hl, x.1 < n) (hhd : ∀ x ∈ hl, x.2.2 ≠ d)
    (hold : ∀ p r, p < n → r < esz → EltOk m (zF cx ow) (zZ cx ow) (fun b => ow b = some j) q ι hl w p r (g p r) (olds (p * esz + r)))
    (hsrc : ∀ (ι' : Nat → Value) (ow' : Nat → Option Nat) (w' : World) (M : Mode) (t sh : Nat) (q' : Nat → Option (Nat × Nat)) (hl' : List (Nat × Nat × Nat)), M.le m' →
        (∀ b, zF cx ow b → b < w.heap.size → w'.heap[b]? = w.heap[b]? ∧ zF cx ow' b) → (∀ b, zZ cx ow b → b < w.heap.size → w'.heap[b]? = w.heap[b]? ∧ zZ cx ow' b) →
        (∀ j ∈ dead, ∀ b, b < w.heap.size → ow b = some j → ∀ r, qs b = some r → w'.heap[b]? = w.heap[b]? ∧ (M = .u → ow' b = some t ∧ q' b = some (sh + r.1, r.2)) ∧ (M ≠ .u → zF cx ow' b)) →
        (∀ i j, hole hl' (sh + i) j = none) →
        ∀ i j, i < n' → j < esz → EltOk M (zF cx ow') (zZ cx ow') (fun b => ow' b = some t) q' ι' hl' w' (sh + i) j (g' i j) (news (i * esz + j)))
    (harr1 : ∀ k, k < n * esz → arr.getD k undef = olds k) (harr2 : ∀ k, k < n' * esz → arr.getD (n * esz + k) undef = news k) :
    Models cx (fun t => if t = d then .slice (some ⟨b0, 0, none⟩) (n + n') cap else ι t) (owPut ow j d b0 dead M) (((s.dels dead).delOb j).setOb d (.row M nn esz (n + n') (fun a b => if a < n then g a b else g' (a - n) b) hl)) a w' := by
  refine hm.putRow ho hb0 (.inr hd) hjd (.slice (some ⟨b0, 0, none⟩) (n + n') cap) (fun e => (hjdd e.symm).elim) hos htape hout hdrawn hsize (fun b _ => hsame b) _ fun hF hZ _ => ?_
  let q' : Nat → Option (Nat × Nat) := fun b => match ow b with
    | some t => if t ∈ dead then (qs b).map fun r => (n + r.1, r.2) else q b
    | none => q b
  refine .inr ⟨b0, cap, arr, tt, q', rfl, ?_, hb, hcap, hsz, ?_, fun p r hp hr => ?_⟩
  · simp only [owPut, hb0]; rw [if_neg hjd]; simp
  · simp only [q', hb0]; rw [if_neg hjd]; exact hq0
  by_cases hpn : p < n
  · dsimp only
    rw [if_pos hpn, harr1 _ (idx_lt hpn hr)]
    refine EltOk.weak hM hnil hF hZ (fun _ h => zFZ h) (fun _ h => zFZ h) (fun b hb hqb hl1 => ?_) (fun d' hd' => ?_) (fun _ => rfl) (hold p r hpn hr)
    · have hb : ow b = some j := hb
      have hne : b ≠ b0 := fun e => by rw [e, hq0] at hqb; cases hqb
      refine ⟨hsame b hne, fun hu => ⟨?_, ?_⟩, fun hu => ⟨?_, (hm.dom b j hb).2⟩⟩
      · simp only [owPut, hb]; rw [if_neg hjd]; simp [hu]
      · simp only [q', hb]
        rw [if_neg hjd]; exact hqb
      · simp only [owPut, hb]; rw [if_neg hjd]; simp [hu, hne]
    · rw [if_neg (hhd _ (hole_mem hd'))]
  · dsimp only
    rw [if_neg hpn]
    have h1 := hsrc (fun t => if t = d then .slice (some ⟨b0, 0, none⟩) (n + n') cap else ι t) (owPut ow j d b0 dead M) w' M d n q' hl hM' hF hZ (fun j' hj' b hl1 hb r' hr' => ?_) (fun i c => hole_none fun x hx e => by have := hhl x hx; omega) (p - n) r (by omega) hr
    · rw [show n + (p - n) = p by omega] at h1
      rw [show p * esz + r = n * esz + ((p - n) * esz + r) by rw [← Nat.add_assoc, ← Nat.add_mul, show n + (p - n) = p by omega]]
      rw [harr2 _ (idx_lt (by omega) hr)]
      exact h1
    · have hjj : j' ≠ j := fun e => hjd (e ▸ hj')
      have hne : b ≠ b0 := fun e => by rw [e, hb0] at hb; cases hb; exact hjj rfl
      refine ⟨hsame b hne, fun hu => ⟨?_, ?_⟩, fun hu => ⟨?_, (hm.dom b j' hb).2⟩⟩
      · simp only [owPut, hb]; rw [if_pos hj', if_pos hu]
      · simp only [q', hb]
        rw [if_pos hj', hr']; rfl
      · simp only [owPut, hb]; rw [if_pos hj', if_neg hu]
end
end Go.Gw
