/- A sort by a comparison, of rows that nothing else speaks of; with no condition. -/
import Derived.Test.YtigaelckdbeecaaGreatDoorGw26
import Derived.Shelf.SlSortCmp.Whole1
import Derived.Sort.LotA
namespace Go.Gw
open Go Go.Proofs Go.Sort Go.Lib Go.Shelf Go.RowKit
set_option linter.unusedVariables false
set_option linter.unusedSimpArgs false
section
variable {P : Program} {α : Type} [Inhabited α]
theorem sw_other {enc : α → Value} {w : World} {blk n k : Nat} {dk : Array α} {os : Array Obj} (hk : k ≠ blk) (hl : k < w.heap.size) : (sortWorld enc w blk 0 n dk os).heap[k]? = w.heap[k]? := by
  unfold sortWorld grow putRow mapBlock Sort.ahead
  simp only
  rw [Array.getElem?_append_left (by simpa using hl), Array.getElem?_modify, if_neg (fun e => hk e.symm)]
theorem sw_row {enc : α → Value} {w : World} {blk n : Nat} {dk : Array α} {os : Array Obj} {c : Array Value} {t : TypeId} (hb : w.heap[blk]? = some (.cells c t (0, 0))) :
    (sortWorld enc w blk 0 n dk os).heap[blk]? = some (.cells (putCells enc 0 dk c) t (0, 0)) := by
  unfold sortWorld grow putRow mapBlock Sort.ahead
  simp only
  rw [Array.getElem?_append_left (by simpa using heap_lt hb), Array.getElem?_modify, if_pos rfl, hb]
  rfl
theorem sw_size {enc : α → Value} {w : World} {blk n : Nat} {dk : Array α} {os : Array Obj} : w.heap.size ≤ (sortWorld enc w blk 0 n dk os).heap.size := by
  unfold sortWorld grow putRow mapBlock Sort.ahead
  simp
theorem ext_grow {w w' : World} (h : Ext (fun _ => False) w w') : ∃ q os', w' = grow (w.drewN q) os' := by
  refine ⟨w'.drawn - w.drawn, w'.heap.extract w.heap.size w'.heap.size, ?_⟩
  have hh : w'.heap = w.heap ++ w'.heap.extract w.heap.size w'.heap.size := by
    apply Array.ext_getElem?
    intro k
    rcases Nat.lt_or_ge k w.heap.size with hk | hk
    · rw [Array.getElem?_append_left hk]
      exact h.block k hk (fun e => e)
    · rw [Array.getElem?_append_right hk, Array.getElem?_extract]
      have := h.size
      split
      · congr 1; omega
      · rw [Array.getElem?_eq_none (by omega)]
  have hd := h.drawn
  cases w with
  | mk heap tape drawn os output =>
  cases w' with
  | mk heap' tape' drawn' os' output' =>
  have h1 := h.os
  have h2 := h.tape
  have h3 := h.output
  simp only at h1 h2 h3 hh hd
  subst h1 h2 h3
  simp only [grow, World.drewN, World.mk.injEq, true_and, and_true]
  exact ⟨hh, by omega⟩
theorem cmp_lays {G : List (Nat × PV)} {g : FuncId} {caps : List PV} {el : α → PV} {cf : α → α → Int} (hC : ∀ x y, PRet P G g (.p false (el x) :: .p false (el y) :: caps.map (AV.p false)) (.p true (.v (.int .i64 (cf x y)))))
    {w : World} {b : Nat} {enc : α → Value} {cb : Array Value} {Z : Nat → Prop} (hZb : ¬ Z b) (hel : ∀ x, RepP Z w (el x) (enc x)) (hcs : cb.size = caps.length) (hcb : ∀ (j : Nat) c, caps[j]? = some c → RepP Z w c (cb.getD j undef))
    (hG : ∀ g c, look G g = some c → RepP Z w c (.pointer (some ⟨g, 0, none⟩))) (size : Nat) : CmpLays1 P g cb enc cf b 0 size w := by
  intro m os dk hs x y
  have hmono : ∀ k, Z k → k < w.heap.size → (sortWorld enc w b 0 m dk os).heap[k]? = w.heap[k]? ∧ True := fun k hk hl => ⟨sw_other (fun e => hZb (e ▸ hk)) hl, trivial⟩
  have h := (hC x y).2 (sortWorld enc w b 0 m dk os) (fun _ => True) (fun _ => undef) (fun _ => none) (#[enc x, enc y] ++ cb) (by simp [hcs]; omega) (fun b i h => by cases h) (fun _ _ => rfl) (fun i o h => by simp [look] at h) (fun j c hj => ?_) (fun g c hg => (hG g c hg).mono hmono)
  · refine h.mono ?_
    rintro e w' ⟨x', r, H', ι', ow', rfl, ⟨rfl, rfl⟩, _, hr, _, _, hext⟩
    refine ⟨by rw [rep_v hr], ext_grow ⟨hext.os, hext.tape, hext.output, hext.drawn, hext.size, fun b hb _ => hext.block b hb (fun ⟨i, h⟩ => by cases h)⟩⟩
  · match j with
    | 0 =>
      simp only [List.getElem?_cons_zero, Option.some.injEq] at hj
      subst hj
      have e : (#[enc x, enc y] ++ cb).getD 0 undef = enc x := by simp [Array.getD_eq_getD_getElem?, Array.getElem?_append]
      rw [e]
      exact .pf _ _ ((hel x).mono hmono)
    | 1 =>
      simp only [List.getElem?_cons_succ, List.getElem?_cons_zero, Option.some.injEq] at hj
      subst hj
      have e : (#[enc x, enc y] ++ cb).getD 1 undef = enc y := by simp [Array.getD_eq_getD_getElem?, Array.getElem?_append]
      rw [e]
      exact .pf _ _ ((hel y).mono hmono)
    | j + 2 =>
      simp only [List.getElem?_cons_succ, List.getElem?_map, Option.map_eq_some_iff] at hj
      obtain ⟨c', hj, rfl⟩ := hj
      have e : (#[enc x, enc y] ++ cb).getD (j + 2) undef = cb.getD j undef := by
        simp only [Array.getD_eq_getD_getElem?, Array.getElem?_append]
        rw [if_neg (by simp)]
        simp
      rw [e]
      exact .pf _ _ ((hcb j c' hj).mono hmono)
end
theorem extract_all {α : Type} {d : Array α} {n : Nat} (h : d.size = n) : d.extract 0 n = d := by subst h; exact Array.extract_size
section
structure Srt {β : Type} (lt : β → β → Bool) (m : Nat) (K : Nat → β) (π : Nat → Nat) : Prop where
  rng : ∀ i, i < m → π i < m
  inj : ∀ i j, i < m → j < m → π i = π j → i = j
  perm : ((List.range m).map π).Perm (List.range m)
  srt : ∀ i j, i < j → j < m → lt (K (π j)) (K (π i)) = false
variable {P : Program} {ρ : Ren}
theorem sort_core (L : SlLaysF.n6 P ρ) {G : List (Nat × PV)} {g : FuncId} {caps : List PV} {el : Nat → PV} {β : Type} {K : Nat → β} {cl : β → β → Int} (hO : SWO (fun x y => decide (cl x y < 0))) {m : Nat} (hm0 : 0 < m)
    (hC : ∀ x y, x < m → y < m → PRet P G g (.p false (el x) :: .p false (el y) :: caps.map (AV.p false)) (.p true (.v (.int .i64 (cl (K x) (K y))))))
    {w : World} {b cap : Nat} {c cb : Array Value} {t : TypeId} (hb : w.heap[b]? = some (.cells c t (0, 0))) (hmc : m ≤ c.size) (hms : m < 4611686018427387904)
    {Z : Nat → Prop} (hZb : ¬ Z b) (hel : ∀ i, i < m → RepP Z w (el i) (c.getD i undef)) (hone : ∀ i, i < m → (c.getD i undef).oneCell' = true) (hcs : cb.size = caps.length) (hcb : ∀ (j : Nat) c, caps[j]? = some c → RepP Z w c (cb.getD j undef))
    (hG : ∀ g c, look G g = some c → RepP Z w c (.pointer (some ⟨g, 0, none⟩))) :
    Calls P (ρ.f 6) #[.slice (some ⟨b, 0, none⟩) m cap, .func (.func g) #[] cb] w fun e w' => e = .returned (.tuple #[]) ∧
      ∃ π c', Srt (fun x y => decide (cl x y < 0)) m K π ∧ Ext (fun k => k = b) w w' ∧ w'.heap[b]? = some (.cells c' t (0, 0)) ∧ c'.size = c.size ∧ ∀ i, i < m → c'.getD i undef = c.getD (π i) undef := by
  obtain ⟨m', rfl⟩ : ∃ m', m = m' + 1 := ⟨m - 1, by omega⟩
  haveI : Inhabited (Fin (m' + 1)) := ⟨0⟩
  let d : Array (Fin (m' + 1)) := Array.ofFn fun i => i
  let enc : Fin (m' + 1) → Value := fun x => c.getD x.val undef
  let cf : Fin (m' + 1) → Fin (m' + 1) → Int := fun x y => cl (K x.val) (K y.val)
  have hds : d.size = m' + 1 := by simp [d]
  have hdj : ∀ j, j < m' + 1 → d[j]!.val = j := fun j hj => by simp [d, hj]
  have hO' : SWO (ltOf cf) := ⟨fun x => hO.irrefl _, fun x y z h1 h2 => hO.trans _ _ _ h1 h2, fun x y z h1 h2 => hO.ntrans _ _ _ h1 h2⟩
  obtain ⟨fn, hf, hbd, hnm⟩ := (hC 0 0 (by omega) (by omega)).1
  obtain ⟨code, hbody⟩ := Option.isSome_iff_exists.1 hbd
  have eg : ∀ args w, (callFunc g args).run P w = .ok (.enter g args) w := enters_of hf hnm hbody
  have hH : Holds enc w b 0 d := fun j hj => by
    rw [hds] at hj
    refine ⟨?_, by simp [World.frozen?, hb]⟩
    rw [Nat.zero_add, cell_of_row hb (by omega)]
    simp only [enc, hdj j hj]
  have hlays : CmpLays1 P g cb enc cf b 0 d.size w := cmp_lays (el := fun x : Fin (m' + 1) => el x.val) (fun x y => hC _ _ x.isLt y.isLt) hZb (fun x => hel _ x.isLt) hcs hcb hG _
  have h := Any.slices_SortFunc L enc (fun x => hone _ x.isLt) cf hO' g cb b 0 cap d w eg hlays hH (heap_lt hb) (by omega)
  rw [hds] at h
  refine h.mono ?_
  rintro e w' ⟨rfl, d', n, os, hp, hs, rfl⟩
  refine ⟨rfl, ?_⟩
  obtain ⟨p1, p2, p3⟩ := hp
  have hsz' : d'.size = m' + 1 := by rw [p1, hds]
  have hperm : d'.toList.Perm d.toList := by
    have e1 : d'.extract 0 (m' + 1) = d' := extract_all hsz'
    have e2 : d.extract 0 (m' + 1) = d := extract_all hds
    rw [e1, e2] at p3
    exact p3
  have hdl : d.toList.map Fin.val = List.range (m' + 1) := by
    apply List.ext_getElem
    · simp [hds]
    · intro i h1 h2
      simp only [List.getElem_map, Array.getElem_toList, List.getElem_range, d, Array.getElem_ofFn]
  let π : Nat → Nat := fun i => d'[i]!.val
  have hmap : (List.range (m' + 1)).map π = d'.toList.map Fin.val := by
    apply List.ext_getElem
    · simp [hsz']
    · intro i h1 h2
      have hi : i < d'.size := by simpa using h2
      simp [π, getElem!_pos d' i hi]
  have hpm : ((List.range (m' + 1)).map π).Perm (List.range (m' + 1)) := by
    rw [hmap, ← hdl]
    exact hperm.map _
  have hnd : ((List.range (m' + 1)).map π).Nodup := (hpm.nodup_iff).2 List.nodup_range
  refine ⟨π, putCells enc 0 d' c, ⟨fun i _ => d'[i]!.isLt, fun i j hi hj he => ?_, hpm, fun i j hij hj => ?_⟩, ⟨rfl, rfl, rfl, ?_, sw_size, fun k hk hne => sw_other hne hk⟩, sw_row hb, by simp [putCells], fun i hi => ?_⟩
  · have h1 := List.pairwise_iff_getElem.1 hnd
    rcases Nat.lt_trichotomy i j with h2 | h2 | h2
    · exact (h1 i j (by simpa using hi) (by simpa using hj) h2 (by simp only [List.getElem_map, List.getElem_range]; exact he)).elim
    · exact h2
    · exact (h1 j i (by simpa using hj) (by simpa using hi) h2 (by simp only [List.getElem_map, List.getElem_range]; exact he.symm)).elim
  · exact hs i j (Nat.zero_le _) hij (by rw [← hds]; omega)
  · show w.drawn ≤ w.drawn + n; omega
  · have h2 : (putCells enc 0 d' c).getD i undef = enc d'[i]! := by
      simp only [putCells, Array.getD_eq_getD_getElem?, Array.getElem?_mapIdx]
      rw [Array.getElem?_eq_getElem (by omega)]
      simp [hsz', hi]
    rw [h2]
end
end Go.Gw
namespace Go.Gw
open Go Go.Proofs Go.Sort Go.Lib Go.Shelf Go.RowKit
set_option linter.unusedVariables false
set_option linter.unusedSimpArgs false
def boxesOf : Nat → List PV → List (Nat × Ob)
  | _, [] => []
  | k, c :: cs => (k, .box [.p true c]) :: boxesOf (k + 1) cs
def capsOf : Nat → List PV → List AV
  | _, [] => []
  | k, _ :: cs => .adr k 0 :: capsOf (k + 1) cs
theorem look_boxes : ∀ (bs : List PV) (k i : Nat), look (boxesOf k bs) i = if k ≤ i then (bs[i - k]?).map (fun c => Ob.box [.p true c]) else none
  | [], k, i => by simp [boxesOf, look]
  | c :: cs, k, i => by
    simp only [boxesOf, look]
    by_cases h : k = i
    · subst h; simp
    · rw [if_neg h, look_boxes cs (k + 1) i]
      by_cases h2 : k ≤ i
      · have : i - k = (i - (k + 1)) + 1 := by omega
        rw [if_pos (by omega), if_pos h2, this, List.getElem?_cons_succ]
      · rw [if_neg (by omega), if_neg h2]
theorem caps_get : ∀ (bs : List PV) (k j : Nat), (capsOf k bs)[j]? = (bs[j]?).map fun _ => AV.adr (k + j) 0
  | [], k, j => by simp [capsOf]
  | c :: cs, k, 0 => by simp [capsOf]
  | c :: cs, k, j + 1 => by
    simp only [capsOf, List.getElem?_cons_succ, caps_get cs (k + 1) j]
    rw [show k + 1 + j = k + (j + 1) by omega]
theorem caps_len : ∀ (bs : List PV) (k : Nat), (capsOf k bs).length = bs.length
  | [], _ => rfl
  | _ :: cs, k => by simp [capsOf, caps_len cs (k + 1)]
theorem look_rowboxes {o : Ob} {bs : List PV} {i : Nat} : look ((0, o) :: boxesOf 1 bs) i = if i = 0 then some o else (bs[i - 1]?).map (fun c => Ob.box [.p true c]) := by
  simp only [look]
  by_cases h : 0 = i
  · subst h; simp
  · rw [if_neg h, look_boxes, if_pos (by omega), if_neg (fun e => h e.symm)]
section
variable {P : Program} {ρ : Ren}
theorem sort_row (L : SlLaysF.n6 P ρ) (hF : ∃ fn, P.funcs[ρ.f 6]? = some fn ∧ fn.body.isSome = true ∧ (fn.name == "runtime.NumGoroutine") = false)
    (hNone : ∀ (p : Option Addr) (cap : Nat) (fv : Value) (w : World), Calls P (ρ.f 6) #[.slice p 0 cap, fv] w fun e w' => e = .returned (.tuple #[]) ∧ w' = w)
    {G : List (Nat × PV)} {g : FuncId} {bs : List PV} {el : Nat → PV} {β : Type} {K : Nat → β} {cl : β → β → Int} (hO : SWO (fun x y => decide (cl x y < 0))) {m : Nat} {nn : Bool}
    (hC : ∀ x y, x < m → y < m → PRet P G g (.p false (el x) :: .p false (el y) :: (bs.map fun c => .p false (.pp 1 fun _ => c))) (.p true (.v (.int .i64 (cl (K x) (K y))))))
    (hsl : ∀ i, i < m → ∃ n f, el i = .sl false 1 n f) (hms : m < 4611686018427387904) {R : AV → List (Nat × Ob) → Prop}
    (hR : ∀ π, Srt (fun x y => decide (cl x y < 0)) m K π → ∃ el' : Nat → PV, (∀ i, i < m → PV.Le (el (π i)) (el' i)) ∧ R (.tp []) ((0, .row .u nn 1 m (fun i _ => el' i) []) :: boxesOf 1 bs)) :
    PCall P G (ρ.f 6) [.own 0, .cl g [] (capsOf 1 bs)] ((0, .row .u nn 1 m (fun i _ => el i) []) :: boxesOf 1 bs) R := by
  refine ⟨hF, fun w Z0 ι ow vs hl hdom hz hob ha hg => ?_⟩
  have h0 := ha 0 _ rfl
  have h1 := ha 1 _ rfl
  have hv : vs = #[vs.getD 0 undef, vs.getD 1 undef] := by
    apply Array.ext
    · exact hl
    · intro i h1 h2
      have : i = 0 ∨ i = 1 := by simp at h2; omega
      rcases this with rfl | rfl <;> simp [Array.getD_eq_getD_getElem?, h1]
  generalize vs.getD 0 undef = v0 at h0 hv
  generalize vs.getD 1 undef = v1 at h1 hv
  subst hv
  cases h0
  cases h1 with
  | cl _ _ _ fs cs hfs hcs _ hcc =>
  have hfs : fs = #[] := Array.eq_empty_of_size_eq_zero hfs
  subst hfs
  have hbox : ∀ j c, bs[j]? = some c → ObOk (fun _ => False) Z0 (fun b => ow b = some (j + 1)) ι w (ι (j + 1)) (.box [.p true c]) := fun j c hj =>
    hob (j + 1) _ (by rw [look_rowboxes, if_neg (by omega)]; simp [hj])
  have hrow := hob 0 _ (by rw [look_rowboxes, if_pos rfl])
  have hlk : ∀ (o o' : Ob) i, (look ((0, o) :: boxesOf 1 bs) i).isSome = true → (look ((0, o') :: boxesOf 1 bs) i).isSome = true := fun o o' i h => by
    rw [look_rowboxes] at h ⊢
    split
    · rfl
    · rename_i e; rw [if_neg e] at h; exact h
  -- what is told of the end
  have fin : ∀ (w' : World) (el' : Nat → PV), R (.tp []) ((0, .row .u nn 1 m (fun i _ => el' i) []) :: boxesOf 1 bs) → (∀ k, k < w.heap.size → (∀ b, ι 0 = .slice (some ⟨b, 0, none⟩) m ((fun | .slice _ _ c => c | _ => 0) (ι 0)) → 0 < m → k ≠ b) → w'.heap[k]? = w.heap[k]?) → True := fun _ _ _ _ => trivial
  have stepBox : ∀ (w' : World) (b0 : Option Nat), (∀ b, b0 = some b → ow b = some 0) → (∀ k, k < w.heap.size → b0 ≠ some k → w'.heap[k]? = w.heap[k]?) → ∀ j c, bs[j]? = some c →
      ObOk (fun b => ow b = none ∧ ((∃ i, ow b = some i) ∨ w.heap.size ≤ b)) (fun b => ow b = none ∧ (Z0 b ∨ (∃ i, ow b = some i) ∨ w.heap.size ≤ b)) (fun b => ow b = some (j + 1)) ι w' (ι (j + 1)) (.box [.p true c]) := by
    intro w' b0 hb0 hsame j c hj
    refine (hbox j c hj).mono (fun b hb _ => hb.elim) (fun b hb hlt => ⟨hsame b hlt (fun e => ?_), hz b hb, .inl hb⟩) (fun b hb hlt => ⟨hsame b hlt (fun e => ?_), hb⟩) (fun i _ => rfl)
    · have := hb0 b e; rw [hz b hb] at this; cases this
    · have := hb0 b e; rw [hb] at this; cases this
  have zero : m = 0 → ∀ p cap, ι 0 = .slice p 0 cap → (∀ el' : Nat → PV, ObOk (fun b => ow b = none ∧ ((∃ i, ow b = some i) ∨ w.heap.size ≤ b)) (fun b => ow b = none ∧ (Z0 b ∨ (∃ i, ow b = some i) ∨ w.heap.size ≤ b)) (fun b => ow b = some 0) ι w (ι 0) (.row .u nn 1 m (fun i _ => el' i) [])) →
      Calls P (ρ.f 6) #[ι 0, .func (.func g) #[] cs] w (fun e w' => ∃ (x : Value) (r : AV) (H' : List (Nat × Ob)) (ι' : Nat → Value) (ow' : Nat → Option Nat), e = .returned x ∧ R r H' ∧
      (∀ i, (look ((0, Ob.row .u nn 1 m (fun i _ => el i) []) :: boxesOf 1 bs) i).isSome = true → (look H' i).isSome = true → ι' i = ι i) ∧
      RepA (fun b => ow' b = none ∧ ((∃ i, ow b = some i) ∨ w.heap.size ≤ b)) (fun b => ow' b = none ∧ (Z0 b ∨ (∃ i, ow b = some i) ∨ w.heap.size ≤ b)) ι' w' r x ∧
      (∀ i o, look H' i = some o → ObOk (fun b => ow' b = none ∧ ((∃ i, ow b = some i) ∨ w.heap.size ≤ b)) (fun b => ow' b = none ∧ (Z0 b ∨ (∃ i, ow b = some i) ∨ w.heap.size ≤ b)) (fun b => ow' b = some i) ι' w' (ι' i) o) ∧
      (∀ b i, ow' b = some i → (look H' i).isSome = true ∧ ((∃ k, ow b = some k) ∨ w.heap.size ≤ b)) ∧ Ext (fun b => ∃ i, ow b = some i) w w') := by
    intro hm p cap hx hro
    subst hm
    rw [hx]
    refine (hNone p cap _ w).mono ?_
    rintro e w' ⟨rfl, rfl⟩
    obtain ⟨el', _, hr⟩ := hR id ⟨fun i h => absurd h (Nat.not_lt_zero _), fun i j h => absurd h (Nat.not_lt_zero _), by simp, fun i j _ h => absurd h (Nat.not_lt_zero _)⟩
    refine ⟨_, _, _, ι, ow, rfl, hr, fun _ _ _ => rfl, .tp [] _ rfl (fun j c h => by simp at h), fun i o ho => ?_, fun b i hb => ⟨hlk _ _ i (hdom b i hb), .inl ⟨i, hb⟩⟩, Ext.refl _ _⟩
    rw [look_rowboxes] at ho
    split at ho
    · rename_i e; subst e; cases ho; exact hro el'
    · rename_i e
      rw [Option.map_eq_some_iff] at ho
      obtain ⟨c, hc, rfl⟩ := ho
      have := stepBox w' none (fun b h => by cases h) (fun k _ _ => rfl) _ _ hc
      rwa [show i - 1 + 1 = i by omega] at this
  rcases hrow with ⟨hm, hx⟩ | ⟨b, cap, c, t, q, hx, hS, hb, hmc, hcc', hq, hel⟩
  · rcases hx with ⟨hnn, hx⟩ | ⟨b, off, hx⟩
    · exact zero hm _ _ hx fun el' => .inl ⟨hm, .inl ⟨hnn, hx⟩⟩
    · exact zero hm _ _ hx fun el' => .inl ⟨hm, .inr ⟨b, off, hx⟩⟩
  · rcases Nat.eq_zero_or_pos m with hm | hm
    · have hx' := hx
      rw [hm] at hx'
      refine zero hm _ _ hx' fun el' => .inr ⟨b, cap, c, t, q, hx, hS, hb, hmc, hcc', hq, fun i j hi => by omega⟩
    · have hcell : ∀ i, i < m → RepU w (fun k => ow k = some 0 ∧ q k = some (i, 0)) (el i) (c.getD i undef) := fun i hi => by
        have := hel i 0 hi (by omega)
        simpa [EltOk, hole] using this
      have hZne : ∀ k i, (ow k = some 0 ∧ q k = some (i, 0)) → k ≠ b := fun k i h e => by rw [e, hq] at h; exact absurd h.2 (by simp)
      have hcore := sort_core L hO hm (caps := bs.map fun c => .pp 1 fun _ => c) (el := el) (K := K) (g := g) (G := G) (fun x y hx hy => by simpa [List.map_map, Function.comp_def] using hC x y hx hy) (w := w) (b := b) (cap := cap) (c := c) (cb := cs) (t := t) hb (by omega) hms
        (Z := fun k => (Z0 k ∨ ow k ≠ none) ∧ k ≠ b) (fun h => h.2 rfl)
        (fun i hi => (hcell i hi).toP fun k hk _ => ⟨.inr (by rw [hk.1]; simp), hZne k i hk⟩)
        (fun i hi => by
          obtain ⟨n, f, e⟩ := hsl i hi
          have := hcell i hi
          rw [e] at this
          generalize c.getD i undef = vv at this ⊢
          cases this <;> rfl)
        (by rw [hcs, caps_len]; simp)
        (fun j c' hj => by
          rw [List.getElem?_map, Option.map_eq_some_iff] at hj
          obtain ⟨cj, hj, rfl⟩ := hj
          obtain ⟨b', c2, t2, hx2, hS2, hb2, hs2, hr2⟩ := hbox j cj hj
          have hadr := hcc j (.adr (1 + j) 0) (by rw [caps_get]; simp [hj])
          generalize cs.getD j undef = vj at hadr
          cases hadr with
          | adr _ _ b3 h3 =>
          rw [Nat.add_comm 1 j, hx2] at h3
          cases h3
          refine .pp 1 _ b' 0 (fun _ => c2.getD 0 undef) (fun j hj => ?_) (fun j hj => ?_) (fun j hj => ⟨.inr (by rw [hS2]; simp), fun e => ?_⟩)
          · have : j = 0 := by omega
            subst this
            exact cell_of_row hb2 (by simp at hs2; omega)
          · have := hr2 0 _ rfl
            cases this with
            | pt _ _ h => exact h.mono fun b hb _ => hb.elim
          · rw [e, hS] at hS2; cases hS2)
        (fun g' c' h => (hg g' c' h).mono fun k hk _ => ⟨rfl, .inl hk, fun e => by rw [e] at hk; rw [hz b hk] at hS; cases hS⟩)
      rw [hx]
      refine hcore.mono ?_
      rintro e w' ⟨rfl, π, c', hsrt, hext, hb', hsz, hc'⟩
      obtain ⟨el', hle, hr⟩ := hR π hsrt
      have hsame : ∀ k, k < w.heap.size → k ≠ b → w'.heap[k]? = w.heap[k]? := fun k hk hne => hext.block k hk hne
      classical
      let σ : Nat → Nat := fun p => if h : ∃ i, i < m ∧ π i = p then h.choose else 0
      have hσ : ∀ i, i < m → σ (π i) = i := fun i hi => by
        have hex : ∃ i', i' < m ∧ π i' = π i := ⟨i, hi, rfl⟩
        have : σ (π i) = hex.choose := dif_pos hex
        rw [this]
        exact hsrt.inj _ _ hex.choose_spec.1 hi hex.choose_spec.2
      refine ⟨_, _, _, ι, ow, rfl, hr, fun _ _ _ => rfl, .tp [] _ rfl (fun j c h => by simp at h), fun i o ho => ?_, fun b i hb => ⟨hlk _ _ i (hdom b i hb), .inl ⟨i, hb⟩⟩, ⟨hext.os, hext.tape, hext.output, hext.drawn, hext.size, fun k hk hne => hsame k hk (fun e => hne ⟨0, by rw [e]; exact hS⟩)⟩⟩
      rw [look_rowboxes] at ho
      split at ho
      · rename_i e; subst e; cases ho
        refine .inr ⟨b, cap, c', t, fun k => (q k).map fun x => (σ x.1, x.2), hx, hS, hb', hmc, by rw [hsz]; exact hcc', by simp [hq], fun i j hi hj => ?_⟩
        have hj0 : j = 0 := by omega
        subst hj0
        simp only [EltOk, hole, Nat.mul_one, Nat.add_zero]
        rw [hc' i hi]
        refine RepU.le (hle i hi) ((hcell (π i) (hsrt.rng i hi)).mono fun k hk hlt => ⟨hsame k hlt (hZne k _ hk), hk.1, ?_⟩)
        simp [hk.2, hσ i hi]
      · rename_i e
        rw [Option.map_eq_some_iff] at ho
        obtain ⟨cj, hcj, rfl⟩ := ho
        have := stepBox w' (some b) (fun k h => by cases h; exact hS) (fun k hk hne => hsame k hk (fun e => hne (by rw [e]))) _ _ hcj
        rwa [show i - 1 + 1 = i by omega] at this
end
end Go.Gw
