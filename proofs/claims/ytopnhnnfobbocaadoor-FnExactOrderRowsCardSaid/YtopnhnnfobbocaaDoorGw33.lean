/- The sort's contract over objects; with no condition. -/
import Derived.Test.YtopnhnnfobbocaaDoorGw32
namespace Go.Gw
open Go Go.Proofs Go.Sort Go.Lib Go.Shelf Go.RowKit
set_option linter.unusedVariables false
set_option linter.unusedSimpArgs false

/-- Boxes of one cell each. -/
def boxesOf : Nat → List PV → List (Nat × Ob)
  | _, [] => []
  | k, c :: cs => (k, .box [.p true c]) :: boxesOf (k + 1) cs
def capsOf : Nat → List PV → List AV
  | _, [] => []
  | k, _ :: cs => .adr k 0 :: capsOf (k + 1) cs

theorem look_boxes : ∀ (bs : List PV) (k i : Nat), look (boxesOf k bs) i = if k ≤ i then (bs[i - k]?).map (fun c => Ob.box [.p true c]) else none
  | [], k, i => by simp [boxesOf, look]
  | c :: cs, k, i => by
    simp only [boxesOf, look]
    by_cases h : k = i
    · subst h; simp
    · rw [if_neg h, look_boxes cs (k + 1) i]
      by_cases h2 : k ≤ i
      · have : i - k = (i - (k + 1)) + 1 := by omega
        rw [if_pos (by omega), if_pos h2, this, List.getElem?_cons_succ]
      · rw [if_neg (by omega), if_neg h2]
theorem caps_get : ∀ (bs : List PV) (k j : Nat), (capsOf k bs)[j]? = (bs[j]?).map fun _ => AV.adr (k + j) 0
  | [], k, j => by simp [capsOf]
  | c :: cs, k, 0 => by simp [capsOf]
  | c :: cs, k, j + 1 => by
    simp only [capsOf, List.getElem?_cons_succ, caps_get cs (k + 1) j]
    rw [show k + 1 + j = k + (j + 1) by omega]
theorem caps_len : ∀ (bs : List PV) (k : Nat), (capsOf k bs).length = bs.length
  | [], _ => rfl
  | _ :: cs, k => by simp [capsOf, caps_len cs (k + 1)]

theorem look_rowboxes {o : Ob} {bs : List PV} {i : Nat} : look ((0, o) :: boxesOf 1 bs) i = if i = 0 then some o else (bs[i - 1]?).map (fun c => Ob.box [.p true c]) := by
  simp only [look]
  by_cases h : 0 = i
  · subst h; simp
  · rw [if_neg h, look_boxes, if_pos (by omega), if_neg (fun e => h e.symm)]

section
variable {P : Program} {ρ : Ren}
theorem sort_row (L : SlLaysF.n6 P ρ) (hF : ∃ fn, P.funcs[ρ.f 6]? = some fn ∧ fn.body.isSome = true ∧ (fn.name == "runtime.NumGoroutine") = false)
    (hNone : ∀ (p : Option Addr) (cap : Nat) (fv : Value) (w : World), Calls P (ρ.f 6) #[.slice p 0 cap, fv] w fun e w' => e = .returned (.tuple #[]) ∧ w' = w)
    {G : List (Nat × PV)} {g : FuncId} {bs : List PV} {el : Nat → PV} {β : Type} {K : Nat → β} {cl : β → β → Int} (hO : SWO (fun x y => decide (cl x y < 0))) {m : Nat} {nn : Bool}
    (hC : ∀ x y, x < m → y < m → PRet P G g (.p false (el x) :: .p false (el y) :: (bs.map fun c => .p false (.pp 1 fun _ => c))) (.p true (.v (.int .i64 (cl (K x) (K y))))))
    (hsl : ∀ i, i < m → ∃ n f, el i = .sl false 1 n f) (hms : m < 4611686018427387904) {R : AV → List (Nat × Ob) → Prop}
    (hR : ∀ π, Srt (fun x y => decide (cl x y < 0)) m K π → ∃ el' : Nat → PV, (∀ i, i < m → PV.Le (el (π i)) (el' i)) ∧ R (.tp []) ((0, .row .u nn 1 m (fun i _ => el' i) []) :: boxesOf 1 bs)) :
    PCall P G (ρ.f 6) [.own 0, .cl g [] (capsOf 1 bs)] ((0, .row .u nn 1 m (fun i _ => el i) []) :: boxesOf 1 bs) R := by
  refine ⟨hF, fun w Z0 ι ow vs hl hdom hz hob ha hg => ?_⟩
  have h0 := ha 0 _ rfl
  have h1 := ha 1 _ rfl
  have hv : vs = #[vs.getD 0 undef, vs.getD 1 undef] := by
    apply Array.ext
    · exact hl
    · intro i h1 h2
      have : i = 0 ∨ i = 1 := by simp at h2; omega
      rcases this with rfl | rfl <;> simp [Array.getD_eq_getD_getElem?, h1]
  generalize vs.getD 0 undef = v0 at h0 hv
  generalize vs.getD 1 undef = v1 at h1 hv
  subst hv
  cases h0
  cases h1 with
  | cl _ _ _ fs cs hfs hcs _ hcc =>
  have hfs : fs = #[] := Array.eq_empty_of_size_eq_zero hfs
  subst hfs
  have hbox : ∀ j c, bs[j]? = some c → ObOk (fun _ => False) Z0 (fun b => ow b = some (j + 1)) ι w (ι (j + 1)) (.box [.p true c]) := fun j c hj =>
    hob (j + 1) _ (by rw [look_rowboxes, if_neg (by omega)]; simp [hj])
  have hrow := hob 0 _ (by rw [look_rowboxes, if_pos rfl])
  have hlk : ∀ (o o' : Ob) i, (look ((0, o) :: boxesOf 1 bs) i).isSome = true → (look ((0, o') :: boxesOf 1 bs) i).isSome = true := fun o o' i h => by
    rw [look_rowboxes] at h ⊢
    split
    · rfl
    · rename_i e; rw [if_neg e] at h; exact h
  -- what is told of the end
  have fin : ∀ (w' : World) (el' : Nat → PV), R (.tp []) ((0, .row .u nn 1 m (fun i _ => el' i) []) :: boxesOf 1 bs) → (∀ k, k < w.heap.size → (∀ b, ι 0 = .slice (some ⟨b, 0, none⟩) m ((fun | .slice _ _ c => c | _ => 0) (ι 0)) → 0 < m → k ≠ b) → w'.heap[k]? = w.heap[k]?) → True := fun _ _ _ _ => trivial
  have stepBox : ∀ (w' : World) (b0 : Option Nat), (∀ b, b0 = some b → ow b = some 0) → (∀ k, k < w.heap.size → b0 ≠ some k → w'.heap[k]? = w.heap[k]?) → ∀ j c, bs[j]? = some c →
      ObOk (fun b => ow b = none ∧ ((∃ i, ow b = some i) ∨ w.heap.size ≤ b)) (fun b => ow b = none ∧ (Z0 b ∨ (∃ i, ow b = some i) ∨ w.heap.size ≤ b)) (fun b => ow b = some (j + 1)) ι w' (ι (j + 1)) (.box [.p true c]) := by
    intro w' b0 hb0 hsame j c hj
    refine (hbox j c hj).mono (fun b hb _ => hb.elim) (fun b hb hlt => ⟨hsame b hlt (fun e => ?_), hz b hb, .inl hb⟩) (fun b hb hlt => ⟨hsame b hlt (fun e => ?_), hb⟩) (fun i _ => rfl)
    · have := hb0 b e; rw [hz b hb] at this; cases this
    · have := hb0 b e; rw [hb] at this; cases this
  have zero : m = 0 → ∀ p cap, ι 0 = .slice p 0 cap → (∀ el' : Nat → PV, ObOk (fun b => ow b = none ∧ ((∃ i, ow b = some i) ∨ w.heap.size ≤ b)) (fun b => ow b = none ∧ (Z0 b ∨ (∃ i, ow b = some i) ∨ w.heap.size ≤ b)) (fun b => ow b = some 0) ι w (ι 0) (.row .u nn 1 m (fun i _ => el' i) [])) →
      Calls P (ρ.f 6) #[ι 0, .func (.func g) #[] cs] w (fun e w' => ∃ (x : Value) (r : AV) (H' : List (Nat × Ob)) (ι' : Nat → Value) (ow' : Nat → Option Nat), e = .returned x ∧ R r H' ∧
      (∀ i, (look ((0, Ob.row .u nn 1 m (fun i _ => el i) []) :: boxesOf 1 bs) i).isSome = true → (look H' i).isSome = true → ι' i = ι i) ∧
      RepA (fun b => ow' b = none ∧ ((∃ i, ow b = some i) ∨ w.heap.size ≤ b)) (fun b => ow' b = none ∧ (Z0 b ∨ (∃ i, ow b = some i) ∨ w.heap.size ≤ b)) ι' w' r x ∧
      (∀ i o, look H' i = some o → ObOk (fun b => ow' b = none ∧ ((∃ i, ow b = some i) ∨ w.heap.size ≤ b)) (fun b => ow' b = none ∧ (Z0 b ∨ (∃ i, ow b = some i) ∨ w.heap.size ≤ b)) (fun b => ow' b = some i) ι' w' (ι' i) o) ∧
      (∀ b i, ow' b = some i → (look H' i).isSome = true ∧ ((∃ k, ow b = some k) ∨ w.heap.size ≤ b)) ∧ Ext (fun b => ∃ i, ow b = some i) w w') := by
    intro hm p cap hx hro
    subst hm
    rw [hx]
    refine (hNone p cap _ w).mono ?_
    rintro e w' ⟨rfl, rfl⟩
    obtain ⟨el', _, hr⟩ := hR id ⟨fun i h => absurd h (Nat.not_lt_zero _), fun i j h => absurd h (Nat.not_lt_zero _), by simp, fun i j _ h => absurd h (Nat.not_lt_zero _)⟩
    refine ⟨_, _, _, ι, ow, rfl, hr, fun _ _ _ => rfl, .tp [] _ rfl (fun j c h => by simp at h), fun i o ho => ?_, fun b i hb => ⟨hlk _ _ i (hdom b i hb), .inl ⟨i, hb⟩⟩, Ext.refl _ _⟩
    rw [look_rowboxes] at ho
    split at ho
    · rename_i e; subst e; cases ho; exact hro el'
    · rename_i e
      rw [Option.map_eq_some_iff] at ho
      obtain ⟨c, hc, rfl⟩ := ho
      have := stepBox w' none (fun b h => by cases h) (fun k _ _ => rfl) _ _ hc
      rwa [show i - 1 + 1 = i by omega] at this
  rcases hrow with ⟨hm, hx⟩ | ⟨b, cap, c, t, q, hx, hS, hb, hmc, hcc', hq, hel⟩
  · rcases hx with ⟨hnn, hx⟩ | ⟨b, off, hx⟩
    · exact zero hm _ _ hx fun el' => .inl ⟨hm, .inl ⟨hnn, hx⟩⟩
    · exact zero hm _ _ hx fun el' => .inl ⟨hm, .inr ⟨b, off, hx⟩⟩
  · rcases Nat.eq_zero_or_pos m with hm | hm
    · have hx' := hx
      rw [hm] at hx'
      refine zero hm _ _ hx' fun el' => .inr ⟨b, cap, c, t, q, hx, hS, hb, hmc, hcc', hq, fun i j hi => by omega⟩
    · have hcell : ∀ i, i < m → RepU w (fun k => ow k = some 0 ∧ q k = some (i, 0)) (el i) (c.getD i undef) := fun i hi => by
        have := hel i 0 hi (by omega)
        simpa [EltOk, hole] using this
      have hZne : ∀ k i, (ow k = some 0 ∧ q k = some (i, 0)) → k ≠ b := fun k i h e => by rw [e, hq] at h; exact absurd h.2 (by simp)
      have hcore := sort_core L hO hm (caps := bs.map fun c => .pp 1 fun _ => c) (el := el) (K := K) (g := g) (G := G) (fun x y hx hy => by simpa [List.map_map, Function.comp_def] using hC x y hx hy) (w := w) (b := b) (cap := cap) (c := c) (cb := cs) (t := t) hb (by omega) hms
        (Z := fun k => (Z0 k ∨ ow k ≠ none) ∧ k ≠ b) (fun h => h.2 rfl)
        (fun i hi => (hcell i hi).toP fun k hk _ => ⟨.inr (by rw [hk.1]; simp), hZne k i hk⟩)
        (fun i hi => by
          obtain ⟨n, f, e⟩ := hsl i hi
          have := hcell i hi
          rw [e] at this
          generalize c.getD i undef = vv at this ⊢
          cases this <;> rfl)
        (by rw [hcs, caps_len]; simp)
        (fun j c' hj => by
          rw [List.getElem?_map, Option.map_eq_some_iff] at hj
          obtain ⟨cj, hj, rfl⟩ := hj
          obtain ⟨b', c2, t2, hx2, hS2, hb2, hs2, hr2⟩ := hbox j cj hj
          have hadr := hcc j (.adr (1 + j) 0) (by rw [caps_get]; simp [hj])
          generalize cs.getD j undef = vj at hadr
          cases hadr with
          | adr _ _ b3 h3 =>
          rw [Nat.add_comm 1 j, hx2] at h3
          cases h3
          refine .pp 1 _ b' 0 (fun _ => c2.getD 0 undef) (fun j hj => ?_) (fun j hj => ?_) (fun j hj => ⟨.inr (by rw [hS2]; simp), fun e => ?_⟩)
          · have : j = 0 := by omega
            subst this
            exact cell_of_row hb2 (by simp at hs2; omega)
          · have := hr2 0 _ rfl
            cases this with
            | pt _ _ h => exact h.mono fun b hb _ => hb.elim
          · rw [e, hS] at hS2; cases hS2)
        (fun g' c' h => (hg g' c' h).mono fun k hk _ => ⟨rfl, .inl hk, fun e => by rw [e] at hk; rw [hz b hk] at hS; cases hS⟩)
      rw [hx]
      refine hcore.mono ?_
      rintro e w' ⟨rfl, π, c', hsrt, hext, hb', hsz, hc'⟩
      obtain ⟨el', hle, hr⟩ := hR π hsrt
      have hsame : ∀ k, k < w.heap.size → k ≠ b → w'.heap[k]? = w.heap[k]? := fun k hk hne => hext.block k hk hne
      classical
      let σ : Nat → Nat := fun p => if h : ∃ i, i < m ∧ π i = p then h.choose else 0
      have hσ : ∀ i, i < m → σ (π i) = i := fun i hi => by
        have hex : ∃ i', i' < m ∧ π i' = π i := ⟨i, hi, rfl⟩
        have : σ (π i) = hex.choose := dif_pos hex
        rw [this]
        exact hsrt.inj _ _ hex.choose_spec.1 hi hex.choose_spec.2
      refine ⟨_, _, _, ι, ow, rfl, hr, fun _ _ _ => rfl, .tp [] _ rfl (fun j c h => by simp at h), fun i o ho => ?_, fun b i hb => ⟨hlk _ _ i (hdom b i hb), .inl ⟨i, hb⟩⟩, ⟨hext.os, hext.tape, hext.output, hext.drawn, hext.size, fun k hk hne => hsame k hk (fun e => hne ⟨0, by rw [e]; exact hS⟩)⟩⟩
      rw [look_rowboxes] at ho
      split at ho
      · rename_i e; subst e; cases ho
        refine .inr ⟨b, cap, c', t, fun k => (q k).map fun x => (σ x.1, x.2), hx, hS, hb', hmc, by rw [hsz]; exact hcc', by simp [hq], fun i j hi hj => ?_⟩
        have hj0 : j = 0 := by omega
        subst hj0
        simp only [EltOk, hole, Nat.mul_one, Nat.add_zero]
        rw [hc' i hi]
        refine RepU.le (hle i hi) ((hcell (π i) (hsrt.rng i hi)).mono fun k hk hlt => ⟨hsame k hlt (hZne k _ hk), hk.1, ?_⟩)
        simp [hk.2, hσ i hi]
      · rename_i e
        rw [Option.map_eq_some_iff] at ho
        obtain ⟨cj, hcj, rfl⟩ := ho
        have := stepBox w' (some b) (fun k h => by cases h; exact hS) (fun k hk hne => hsame k hk (fun e => hne (by rw [e]))) _ _ hcj
        rwa [show i - 1 + 1 = i by omega] at this
end
end Go.Gw
