/- A sort by a comparison, of rows that nothing else speaks of; with no condition. -/
import Derived.Test.YtopnhnnfobbocaaDoorGw31
import Derived.Shelf.SlSortCmp.Whole1
import Derived.Sort.LotA
namespace Go.Gw
open Go Go.Proofs Go.Sort Go.Lib Go.Shelf Go.RowKit
set_option linter.unusedVariables false
set_option linter.unusedSimpArgs false

section
variable {P : Program} {α : Type} [Inhabited α]

theorem sw_other {enc : α → Value} {w : World} {blk n k : Nat} {dk : Array α} {os : Array Obj} (hk : k ≠ blk) (hl : k < w.heap.size) : (sortWorld enc w blk 0 n dk os).heap[k]? = w.heap[k]? := by
  unfold sortWorld grow putRow mapBlock Sort.ahead
  simp only
  rw [Array.getElem?_append_left (by simpa using hl), Array.getElem?_modify, if_neg (fun e => hk e.symm)]

theorem sw_row {enc : α → Value} {w : World} {blk n : Nat} {dk : Array α} {os : Array Obj} {c : Array Value} {t : TypeId} (hb : w.heap[blk]? = some (.cells c t (0, 0))) :
    (sortWorld enc w blk 0 n dk os).heap[blk]? = some (.cells (putCells enc 0 dk c) t (0, 0)) := by
  unfold sortWorld grow putRow mapBlock Sort.ahead
  simp only
  rw [Array.getElem?_append_left (by simpa using heap_lt hb), Array.getElem?_modify, if_pos rfl, hb]
  rfl

theorem sw_size {enc : α → Value} {w : World} {blk n : Nat} {dk : Array α} {os : Array Obj} : w.heap.size ≤ (sortWorld enc w blk 0 n dk os).heap.size := by
  unfold sortWorld grow putRow mapBlock Sort.ahead
  simp

theorem ext_grow {w w' : World} (h : Ext (fun _ => False) w w') : ∃ q os', w' = grow (w.drewN q) os' := by
  refine ⟨w'.drawn - w.drawn, w'.heap.extract w.heap.size w'.heap.size, ?_⟩
  have hh : w'.heap = w.heap ++ w'.heap.extract w.heap.size w'.heap.size := by
    apply Array.ext_getElem?
    intro k
    rcases Nat.lt_or_ge k w.heap.size with hk | hk
    · rw [Array.getElem?_append_left hk]
      exact h.block k hk (fun e => e)
    · rw [Array.getElem?_append_right hk, Array.getElem?_extract]
      have := h.size
      split
      · congr 1; omega
      · rw [Array.getElem?_eq_none (by omega)]
  have hd := h.drawn
  cases w with
  | mk heap tape drawn os output =>
  cases w' with
  | mk heap' tape' drawn' os' output' =>
  have h1 := h.os
  have h2 := h.tape
  have h3 := h.output
  simp only at h1 h2 h3 hh hd
  subst h1 h2 h3
  simp only [grow, World.drewN, World.mk.injEq, true_and, and_true]
  exact ⟨hh, by omega⟩

/-- What is asked of the comparison, out of its contract. -/
theorem cmp_lays {G : List (Nat × PV)} {g : FuncId} {caps : List PV} {el : α → PV} {cf : α → α → Int} (hC : ∀ x y, PRet P G g (.p false (el x) :: .p false (el y) :: caps.map (AV.p false)) (.p true (.v (.int .i64 (cf x y)))))
    {w : World} {b : Nat} {enc : α → Value} {cb : Array Value} {Z : Nat → Prop} (hZb : ¬ Z b) (hel : ∀ x, RepP Z w (el x) (enc x)) (hcs : cb.size = caps.length) (hcb : ∀ (j : Nat) c, caps[j]? = some c → RepP Z w c (cb.getD j undef))
    (hG : ∀ g c, look G g = some c → RepP Z w c (.pointer (some ⟨g, 0, none⟩))) (size : Nat) : CmpLays1 P g cb enc cf b 0 size w := by
  intro m os dk hs x y
  have hmono : ∀ k, Z k → k < w.heap.size → (sortWorld enc w b 0 m dk os).heap[k]? = w.heap[k]? ∧ True := fun k hk hl => ⟨sw_other (fun e => hZb (e ▸ hk)) hl, trivial⟩
  have h := (hC x y).2 (sortWorld enc w b 0 m dk os) (fun _ => True) (fun _ => undef) (fun _ => none) (#[enc x, enc y] ++ cb) (by simp [hcs]; omega) (fun b i h => by cases h) (fun _ _ => rfl) (fun i o h => by simp [look] at h) (fun j c hj => ?_) (fun g c hg => (hG g c hg).mono hmono)
  · refine h.mono ?_
    rintro e w' ⟨x', r, H', ι', ow', rfl, ⟨rfl, rfl⟩, _, hr, _, _, hext⟩
    refine ⟨by rw [rep_v hr], ext_grow ⟨hext.os, hext.tape, hext.output, hext.drawn, hext.size, fun b hb _ => hext.block b hb (fun ⟨i, h⟩ => by cases h)⟩⟩
  · match j with
    | 0 =>
      simp only [List.getElem?_cons_zero, Option.some.injEq] at hj
      subst hj
      have e : (#[enc x, enc y] ++ cb).getD 0 undef = enc x := by simp [Array.getD_eq_getD_getElem?, Array.getElem?_append]
      rw [e]
      exact .pf _ _ ((hel x).mono hmono)
    | 1 =>
      simp only [List.getElem?_cons_succ, List.getElem?_cons_zero, Option.some.injEq] at hj
      subst hj
      have e : (#[enc x, enc y] ++ cb).getD 1 undef = enc y := by simp [Array.getD_eq_getD_getElem?, Array.getElem?_append]
      rw [e]
      exact .pf _ _ ((hel y).mono hmono)
    | j + 2 =>
      simp only [List.getElem?_cons_succ, List.getElem?_map, Option.map_eq_some_iff] at hj
      obtain ⟨c', hj, rfl⟩ := hj
      have e : (#[enc x, enc y] ++ cb).getD (j + 2) undef = cb.getD j undef := by
        simp only [Array.getD_eq_getD_getElem?, Array.getElem?_append]
        rw [if_neg (by simp)]
        simp
      rw [e]
      exact .pf _ _ ((hcb j c' hj).mono hmono)
end

theorem extract_all {α : Type} {d : Array α} {n : Nat} (h : d.size = n) : d.extract 0 n = d := by subst h; exact Array.extract_size
section
/-- A sorted permutation, as numbers of places. -/
structure Srt {β : Type} (lt : β → β → Bool) (m : Nat) (K : Nat → β) (π : Nat → Nat) : Prop where
  rng : ∀ i, i < m → π i < m
  inj : ∀ i j, i < m → j < m → π i = π j → i = j
  perm : ((List.range m).map π).Perm (List.range m)
  srt : ∀ i j, i < j → j < m → lt (K (π j)) (K (π i)) = false

variable {P : Program} {ρ : Ren}
theorem sort_core (L : SlLaysF.n6 P ρ) {G : List (Nat × PV)} {g : FuncId} {caps : List PV} {el : Nat → PV} {β : Type} {K : Nat → β} {cl : β → β → Int} (hO : SWO (fun x y => decide (cl x y < 0))) {m : Nat} (hm0 : 0 < m)
    (hC : ∀ x y, x < m → y < m → PRet P G g (.p false (el x) :: .p false (el y) :: caps.map (AV.p false)) (.p true (.v (.int .i64 (cl (K x) (K y))))))
    {w : World} {b cap : Nat} {c cb : Array Value} {t : TypeId} (hb : w.heap[b]? = some (.cells c t (0, 0))) (hmc : m ≤ c.size) (hms : m < 4611686018427387904)
    {Z : Nat → Prop} (hZb : ¬ Z b) (hel : ∀ i, i < m → RepP Z w (el i) (c.getD i undef)) (hone : ∀ i, i < m → (c.getD i undef).oneCell' = true) (hcs : cb.size = caps.length) (hcb : ∀ (j : Nat) c, caps[j]? = some c → RepP Z w c (cb.getD j undef))
    (hG : ∀ g c, look G g = some c → RepP Z w c (.pointer (some ⟨g, 0, none⟩))) :
    Calls P (ρ.f 6) #[.slice (some ⟨b, 0, none⟩) m cap, .func (.func g) #[] cb] w fun e w' => e = .returned (.tuple #[]) ∧
      ∃ π c', Srt (fun x y => decide (cl x y < 0)) m K π ∧ Ext (fun k => k = b) w w' ∧ w'.heap[b]? = some (.cells c' t (0, 0)) ∧ c'.size = c.size ∧ ∀ i, i < m → c'.getD i undef = c.getD (π i) undef := by
  obtain ⟨m', rfl⟩ : ∃ m', m = m' + 1 := ⟨m - 1, by omega⟩
  haveI : Inhabited (Fin (m' + 1)) := ⟨0⟩
  let d : Array (Fin (m' + 1)) := Array.ofFn fun i => i
  let enc : Fin (m' + 1) → Value := fun x => c.getD x.val undef
  let cf : Fin (m' + 1) → Fin (m' + 1) → Int := fun x y => cl (K x.val) (K y.val)
  have hds : d.size = m' + 1 := by simp [d]
  have hdj : ∀ j, j < m' + 1 → d[j]!.val = j := fun j hj => by simp [d, hj]
  have hO' : SWO (ltOf cf) := ⟨fun x => hO.irrefl _, fun x y z h1 h2 => hO.trans _ _ _ h1 h2, fun x y z h1 h2 => hO.ntrans _ _ _ h1 h2⟩
  obtain ⟨fn, hf, hbd, hnm⟩ := (hC 0 0 (by omega) (by omega)).1
  obtain ⟨code, hbody⟩ := Option.isSome_iff_exists.1 hbd
  have eg : ∀ args w, (callFunc g args).run P w = .ok (.enter g args) w := enters_of hf hnm hbody
  have hH : Holds enc w b 0 d := fun j hj => by
    rw [hds] at hj
    refine ⟨?_, by simp [World.frozen?, hb]⟩
    rw [Nat.zero_add, cell_of_row hb (by omega)]
    simp only [enc, hdj j hj]
  have hlays : CmpLays1 P g cb enc cf b 0 d.size w := cmp_lays (el := fun x : Fin (m' + 1) => el x.val) (fun x y => hC _ _ x.isLt y.isLt) hZb (fun x => hel _ x.isLt) hcs hcb hG _
  have h := Any.slices_SortFunc L enc (fun x => hone _ x.isLt) cf hO' g cb b 0 cap d w eg hlays hH (heap_lt hb) (by omega)
  rw [hds] at h
  refine h.mono ?_
  rintro e w' ⟨rfl, d', n, os, hp, hs, rfl⟩
  refine ⟨rfl, ?_⟩
  obtain ⟨p1, p2, p3⟩ := hp
  have hsz' : d'.size = m' + 1 := by rw [p1, hds]
  have hperm : d'.toList.Perm d.toList := by
    have e1 : d'.extract 0 (m' + 1) = d' := extract_all hsz'
    have e2 : d.extract 0 (m' + 1) = d := extract_all hds
    rw [e1, e2] at p3
    exact p3
  have hdl : d.toList.map Fin.val = List.range (m' + 1) := by
    apply List.ext_getElem
    · simp [hds]
    · intro i h1 h2
      simp only [List.getElem_map, Array.getElem_toList, List.getElem_range, d, Array.getElem_ofFn]
  let π : Nat → Nat := fun i => d'[i]!.val
  have hmap : (List.range (m' + 1)).map π = d'.toList.map Fin.val := by
    apply List.ext_getElem
    · simp [hsz']
    · intro i h1 h2
      have hi : i < d'.size := by simpa using h2
      simp [π, getElem!_pos d' i hi]
  have hpm : ((List.range (m' + 1)).map π).Perm (List.range (m' + 1)) := by
    rw [hmap, ← hdl]
    exact hperm.map _
  have hnd : ((List.range (m' + 1)).map π).Nodup := (hpm.nodup_iff).2 List.nodup_range
  refine ⟨π, putCells enc 0 d' c, ⟨fun i _ => d'[i]!.isLt, fun i j hi hj he => ?_, hpm, fun i j hij hj => ?_⟩, ⟨rfl, rfl, rfl, ?_, sw_size, fun k hk hne => sw_other hne hk⟩, sw_row hb, by simp [putCells], fun i hi => ?_⟩
  · have h1 := List.pairwise_iff_getElem.1 hnd
    rcases Nat.lt_trichotomy i j with h2 | h2 | h2
    · exact (h1 i j (by simpa using hi) (by simpa using hj) h2 (by simp only [List.getElem_map, List.getElem_range]; exact he)).elim
    · exact h2
    · exact (h1 j i (by simpa using hj) (by simpa using hi) h2 (by simp only [List.getElem_map, List.getElem_range]; exact he.symm)).elim
  · exact hs i j (Nat.zero_le _) hij (by rw [← hds]; omega)
  · show w.drawn ≤ w.drawn + n; omega
  · have h2 : (putCells enc 0 d' c).getD i undef = enc d'[i]! := by
      simp only [putCells, Array.getD_eq_getD_getElem?, Array.getElem?_mapIdx]
      rw [Array.getElem?_eq_getElem (by omega)]
      simp [hsz', hi]
    rw [h2]
end
end Go.Gw
