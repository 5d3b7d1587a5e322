/- Arguments of a law, opened: from 'it reads as data' to what the walk knows of it; with no condition. -/
import Derived.Test.YtopnhnnfobbocaaDoorGw28
import Derived.ChangeArms
import Derived.Carry
import Derived.OpenShut
namespace Go.Gw
open Go Go.ChangeShapes Go.RowKit
set_option linter.unusedVariables false
set_option linter.unusedSimpArgs false

/-- What a cell holds. -/
inductive Leaf where
  | int (k : IntKind)
  | bool
  | str
  | sl (e : List Leaf)

def offOk (P : Program) : Nat → List Field → List (List Leaf) → Bool
  | off, [], [] => true
  | off, f :: fs, l :: ls => (f.offset == off && P.cellsOf f.type == l.length) && offOk P (off + l.length) fs ls
  | _, _, _ => false

/-- The cells of a type. -/
def leaves (P : Program) : Nat → TypeId → Option (List Leaf)
  | 0, _ => none
  | n + 1, t => match P.underlying t with
    | some (.int k) => some [.int k]
    | some .bool => some [.bool]
    | some .string => some [.str]
    | some (.slice e) => match leaves P n e with
      | some l => match P.cellsOf e == l.length && Nat.blt 0 l.length with
        | true => some [.sl l]
        | false => none
      | none => none
    | some (.struct fs) => match mapO (fun f => leaves P n f.type) fs.toList with
      | some ls => match offOk P 0 fs.toList ls && P.cellsOf t == ls.flatten.length with
        | true => some ls.flatten
        | false => none
      | none => none
    | _ => none

inductive Fit : Leaf → PV → Prop
  | int (k n) (h : (Lit.int k n).wf = true) : Fit (.int k) (.v (.int k n))
  | bool (b) : Fit .bool (.v (.bool b))
  | str (s) (h : s.size ≤ maxLen) : Fit .str (.v (.string s))
  | sl (e nn n g) (hn : n ≤ maxLen) (h : ∀ (i j : Nat) (l : Leaf), i < n → e[j]? = some l → Fit l (g i j)) : Fit (.sl e) (.sl nn e.length n g)

section
variable {H : Type} {enc : TypeId × Value → H} {P : Program} {w : World} {base : Nat} {spare : Nat → Bool} {held : Bool}

def Good (w : World) (cs : List Value) (ls : List Leaf) : Prop := cs.length = ls.length ∧ ∀ (j : Nat) (lf : Leaf), ls[j]? = some lf → ∃ c, Fit lf c ∧ RepP (fun _ => True) w c (cs.getD j undef)

theorem mapO_get {α β : Type} {f : α → Option β} : ∀ {l : List α} {r : List β}, mapO f l = some r → l.length = r.length ∧ ∀ (i : Nat) (a : α), l[i]? = some a → f a = r[i]?
  | [], r, h => by simp [mapO] at h; subst h; exact ⟨rfl, fun i a h => by simp at h⟩
  | x :: l, r, h => by
    simp only [mapO] at h
    split at h
    · rename_i a b ha hb
      cases h
      obtain ⟨h1, h2⟩ := mapO_get hb
      refine ⟨by simp [h1], fun i y hy => ?_⟩
      cases i with
      | zero => simp at hy; subst hy; simpa using ha
      | succ i => simpa using h2 i y (by simpa using hy)
    · cases h

theorem good_flat {cs : List Value} : ∀ {fs : List Field} {ls : List (List Leaf)} {off : Nat}, offOk P off fs ls = true → (∀ (i : Nat) (f : Field) (l : List Leaf), fs[i]? = some f → ls[i]? = some l → Good w ((cs.drop f.offset).take (P.cellsOf f.type)) l) →
    ∀ (j : Nat) (lf : Leaf), ls.flatten[j]? = some lf → ∃ c, Fit lf c ∧ RepP (fun _ => True) w c (cs.getD (off + j) undef)
  | [], [], off, _, _, j, lf, h => by simp at h
  | f :: fs, l :: ls, off, ho, hg, j, lf, h => by
    simp only [offOk, Bool.and_eq_true, beq_iff_eq] at ho
    obtain ⟨⟨h1, h2⟩, h3⟩ := ho
    rw [List.flatten_cons, List.getElem?_append] at h
    split at h
    · rename_i hj
      obtain ⟨g1, g2⟩ := hg 0 f l rfl rfl
      obtain ⟨c, h4, h5⟩ := g2 j lf h
      refine ⟨c, h4, ?_⟩
      have : (cs.drop f.offset |>.take (P.cellsOf f.type)).getD j undef = cs.getD (off + j) undef := by
        simp only [List.getD_eq_getElem?_getD, List.getElem?_take, List.getElem?_drop, h1, h2, if_pos hj]
      rwa [this] at h5
    · rename_i hj
      have := good_flat (off := off + l.length) h3 (fun i f' l' hf hl => hg (i + 1) f' l' (by simpa using hf) (by simpa using hl)) (j - l.length) lf h
      rwa [show off + l.length + (j - l.length) = off + j by omega] at this
  | [], _ :: _, _, h, _, _, _, _ => by simp [offOk] at h
  | _ :: _, [], _, h, _, _, _, _ => by simp [offOk] at h

theorem mapM_range {α : Type} {f : Nat → Option α} : ∀ {n k : Nat} {l : List α}, (List.range' k n).mapM f = some l → l.length = n ∧ ∀ (j : Nat), j < n → f (k + j) = l[j]?
  | 0, k, l, h => by simp at h; subst h; exact ⟨rfl, fun j h => by omega⟩
  | n + 1, k, l, h => by
    simp only [List.range'_succ, List.mapM_cons, Option.bind_eq_bind, Option.bind_eq_some_iff, Option.pure_def, Option.some.injEq] at h
    obtain ⟨a, ha, r, hr, rfl⟩ := h
    obtain ⟨h1, h2⟩ := mapM_range hr
    refine ⟨by simp [h1], fun j hj => ?_⟩
    cases j with
    | zero => simpa using ha
    | succ j =>
      have := h2 j (by omega)
      rw [show k + 1 + j = k + (j + 1) by omega] at this
      simpa using this

theorem cells_spec {a : Addr} {n : Nat} {cs : List Value} (h : w.cells? base a n = some cs) : cs.length = n ∧ ∀ (j : Nat), j < n → w.cell? (a.add j) = cs[j]? := by
  unfold World.cells? at h
  split at h
  · rw [List.range_eq_range'] at h
    obtain ⟨h1, h2⟩ := mapM_range h
    exact ⟨h1, fun j hj => by simpa using h2 j hj⟩
  · cases h

open Classical in
theorem open_trod : ∀ (m : Nat) (t : TypeId) (ls : List Leaf) (n : Nat) (cs : List Value) (x : DataW H × List MemPlace), leaves P m t = some ls → DataW.trod enc P w base spare held n t cs = some x → Good w cs ls
  | 0, t, ls, n, cs, x, h, _ => by simp [leaves] at h
  | m + 1, t, ls, n, cs, x, hl, h => by
    simp only [leaves] at hl
    split at hl
    · rename_i k ht
      cases hl
      obtain ⟨z, rfl, _, hw⟩ := DataW.trod_int ht h
      exact ⟨rfl, fun j lf hj => by
        cases j with
        | zero => simp at hj; subst hj; exact ⟨_, .int _ _ hw, .v _⟩
        | succ j => simp at hj⟩
    · rename_i ht
      cases hl
      obtain ⟨z, rfl, _⟩ := DataW.trod_bool ht h
      exact ⟨rfl, fun j lf hj => by
        cases j with
        | zero => simp at hj; subst hj; exact ⟨_, .bool _, .v _⟩
        | succ j => simp at hj⟩
    · rename_i ht
      cases hl
      obtain ⟨z, rfl, _, hw⟩ := DataW.trod_string ht h
      exact ⟨rfl, fun j lf hj => by
        cases j with
        | zero => simp at hj; subst hj; exact ⟨_, .str _ hw, .v _⟩
        | succ j => simp at hj⟩
    · rename_i e ht
      split at hl
      · rename_i l hle
        split at hl
        · rename_i hsz
          simp only [Bool.and_eq_true, beq_iff_eq, Nat.blt_eq] at hsz
          cases hl
          suffices ∃ c, Fit (.sl l) c ∧ cs.length = 1 ∧ RepP (fun _ => True) w c (cs.getD 0 undef) by
            obtain ⟨c, h1, h2, h3⟩ := this
            exact ⟨h2, fun j lf hj => by
              cases j with
              | zero => simp at hj; subst hj; exact ⟨c, h1, h3⟩
              | succ j => simp at hj⟩
          rcases DataW.trod_slice ht h with ⟨rfl, _⟩ | ⟨a, len, cap, elems, rest, n', rfl, rfl, _, _, hlc, hcm, hel, hcell, _⟩
          · exact ⟨.sl false l.length 0 (fun _ _ => .any), .sl _ _ _ _ (Nat.zero_le _) (fun i j lf hi => by omega), rfl, .nil _ _⟩
          · by_cases h0 : len = 0
            · subst h0
              exact ⟨.sl true l.length 0 (fun _ _ => .any), .sl _ _ _ _ (Nat.zero_le _) (fun i j lf hi => by omega), rfl, .emp _ _ _ _ _⟩
            · have key : ∀ i, i < len → ∃ cs', w.cells? base (a.add (i * l.length)) l.length = some cs' ∧ Good w cs' l := fun i hi => by
                have h1 := hcell i hi
                rw [List.getElem?_eq_getElem (by omega), Option.bind_eq_some_iff] at h1
                obtain ⟨cs', h2, h3⟩ := h1
                rw [hsz.1] at h2
                exact ⟨cs', h2, open_trod m e l n' cs' _ hle h3⟩
              have hspot : a.spot = none := by
                obtain ⟨cs', h2, h3⟩ := key 0 (by omega)
                have := (cells_spec h2).2 0 hsz.2
                rw [List.getElem?_eq_getElem (by rw [h3.1]; exact hsz.2)] at this
                have := World.cell?_spot this
                simpa [Addr.add] using this
              obtain ⟨b, off, sp⟩ := a
              simp only at hspot
              subst hspot
              have hel2 : ∀ i j, i < len → j < l.length → ∃ c v, w.cell? ⟨b, off + i * l.length + j, none⟩ = some v ∧ RepP (fun _ => True) w c v ∧ ∀ lf, l[j]? = some lf → Fit lf c := fun i j hi hj => by
                obtain ⟨cs', h2, h3, h4⟩ := key i hi
                have h5 := (cells_spec h2).2 j hj
                rw [addr_add, addr_add, List.getElem?_eq_getElem (by omega)] at h5
                obtain ⟨c, h6, h7⟩ := h4 j _ (List.getElem?_eq_getElem hj)
                rw [List.getD_eq_getElem?_getD, List.getElem?_eq_getElem (by omega), Option.getD_some] at h7
                exact ⟨c, _, h5, h7, fun lf hlf => by rw [List.getElem?_eq_getElem hj] at hlf; cases hlf; exact h6⟩
              let g : Nat → Nat → PV := fun i j => if hh : i < len ∧ j < l.length then (hel2 i j hh.1 hh.2).choose else .any
              let v : Nat → Nat → Value := fun i j => if hh : i < len ∧ j < l.length then (hel2 i j hh.1 hh.2).choose_spec.choose else undef
              have hgv : ∀ i j, i < len → j < l.length → w.cell? ⟨b, off + i * l.length + j, none⟩ = some (v i j) ∧ RepP (fun _ => True) w (g i j) (v i j) ∧ ∀ lf, l[j]? = some lf → Fit lf (g i j) := fun i j hi hj => by
                simp only [g, v, dif_pos (And.intro hi hj)]
                exact (hel2 i j hi hj).choose_spec.choose_spec
              refine ⟨.sl true l.length len g, .sl _ _ _ _ (Nat.le_trans hlc hcm) (fun i j lf hi hj => ?_), rfl, .sl _ _ _ _ b off cap v (fun i j hi hj => (hgv i j hi hj).1) (fun i j hi hj => (hgv i j hi hj).2.1) (fun _ _ _ _ => trivial) hlc⟩
              exact (hgv i j hi (List.getElem?_eq_some_iff.1 hj).1).2.2 lf hj
        · cases hl
      · cases hl
    · rename_i fs ht
      split at hl
      · rename_i lss hls
        split at hl
        · rename_i hok
          simp only [Bool.and_eq_true, beq_iff_eq] at hok
          cases hl
          obtain ⟨xs, n', rfl, _, hlen, hxl, hf⟩ := DataW.trod_struct ht h
          obtain ⟨h1, h2⟩ := mapO_get hls
          refine ⟨hlen.trans hok.2, fun j lf hj => ?_⟩
          have := good_flat (w := w) (cs := cs) hok.1 (fun i f l hfi hli => by
            have h3 := h2 i f hfi
            rw [hli] at h3
            have hfi' : fs[i]? = some f := by simpa using hfi
            have h4 := hf i f hfi'
            have hlt : i < xs.length := by rw [hxl]; exact (Array.getElem?_eq_some_iff.1 hfi').1
            rw [List.getElem?_eq_getElem hlt] at h4
            exact open_trod m f.type l n' _ _ h3 h4) j lf hj
          simpa using this
        · cases hl
      · cases hl
    · cases hl
end
end Go.Gw
