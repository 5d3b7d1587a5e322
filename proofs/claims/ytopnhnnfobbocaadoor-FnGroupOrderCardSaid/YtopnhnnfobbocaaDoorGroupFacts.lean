/- Groups of pairs, in any order of the pairs; with no condition. -/
import Derived.Test.YtopnhnnfobbocaaDoorSortRows
import Derived.Test.YtopnhnnfobbocaaDoorSortFacts
import Derived.KernelRfl
namespace Go.Gw
open Go Go.Proofs
set_option linter.unusedSimpArgs false
set_option linter.unusedVariables false
structure Gr where
  a : Int
  c : Int
  t : Int
def Gr.col (b : Gr) : Nat → Int
  | 0 => b.a
  | 1 => b.c
  | _ => b.t
def g0 : Gr := ⟨0, 0, 0⟩
def hG (G : List Gr) (i j : Nat) : Int := (G.getD i g0).col j
def addG (a v : Int) : List Gr → List Gr
  | [] => [⟨a, 1, v⟩]
  | b :: G => if b.a < a then b :: addG a v G else if b.a = a then ⟨b.a, b.c + 1, b.t + v⟩ :: G else ⟨a, 1, v⟩ :: b :: G
def atG (a : Int) : List Gr → Nat
  | [] => 0
  | b :: G => if b.a < a then atG a G + 1 else 0
def grpL (L : List (Int × Int)) : List Gr := L.foldl (fun G p => addG p.1 p.2 G) []
theorem addG_comm (a v b u : Int) : ∀ G : List Gr, addG a v (addG b u G) = addG b u (addG a v G)
  | [] => by
    simp only [addG]
    by_cases h1 : a < b
    · simp [h1, show ¬ b < a by omega, show ¬ b = a by omega, addG]
    · by_cases h2 : a = b
      · subst h2
        simp
        omega
      · simp [h1, h2, show b < a by omega, addG]
  | c :: G => by
    have ih := addG_comm a v b u G
    simp only [addG]
    by_cases h1 : c.a < a
    · by_cases h2 : c.a < b
      · simp only [h1, h2, if_true, addG, ih]
      · by_cases h3 : c.a = b
        · simp [h1, h2, h3, show b < a by omega, addG, show ¬ b < b by omega]
        · simp [h1, h2, h3, addG, show b < a by omega]
    · by_cases h2 : c.a < b
      · by_cases h3 : c.a = a
        · simp [h1, h2, h3, addG, show a < b by omega, show ¬ a < a by omega]
        · simp [h1, h2, h3, addG, show ¬ b < a by omega, show a < b by omega]
      · by_cases h3 : c.a = a
        · by_cases h4 : c.a = b
          · have h5 : a = b := by omega
            subst h5
            simp [h3, addG]
            omega
          · simp [h1, h2, h3, h4, addG, show b < a by omega, show ¬ a = b by omega, show ¬ a < b by omega]
        · by_cases h4 : c.a = b
          · simp [h1, h2, h3, h4, addG, show ¬ b < a by omega, show a < b by omega, show ¬ b = a by omega]
          · by_cases h5 : a < b
            · simp [h1, h2, h3, h4, addG, h5, show ¬ b < a by omega, show ¬ b = a by omega]
            · by_cases h6 : a = b
              · subst h6
                simp [h1, h3, addG]
                omega
              · simp [h1, h2, h3, h4, addG, h5, h6, show b < a by omega]
theorem grpL_perm {L L' : List (Int × Int)} (h : L.Perm L') : grpL L = grpL L' := by
  unfold grpL
  exact h.foldl_eq' (fun x _ y _ z => (addG_comm y.1 y.2 x.1 x.2 z)) []
theorem grpL_snoc (L : List (Int × Int)) (p : Int × Int) : grpL (L ++ [p]) = addG p.1 p.2 (grpL L) := by simp [grpL]
theorem atG_le (a : Int) : ∀ G : List Gr, atG a G ≤ G.length
  | [] => Nat.le_refl _
  | b :: G => by
    have := atG_le a G
    simp only [atG, List.length_cons]
    split <;> omega
theorem atG_lt {a : Int} : ∀ {G : List Gr} {i : Nat}, i < atG a G → (G.getD i g0).a < a
  | [], i, h => by simp [atG] at h
  | b :: G, i, h => by
    simp only [atG] at h
    split at h
    · rename_i hb
      cases i with
      | zero => simpa using hb
      | succ i => simpa using atG_lt (G := G) (i := i) (by omega)
    · omega
theorem atG_ge {a : Int} : ∀ {G : List Gr}, atG a G < G.length → a ≤ (G.getD (atG a G) g0).a
  | [], h => by simp at h
  | b :: G, h => by
    simp only [atG] at h ⊢
    split
    · rename_i hb
      rw [if_pos hb] at h
      simpa using atG_ge (G := G) (by simpa using h)
    · rename_i hb
      simp only [List.getD_cons_zero]; omega
theorem atG_of {a : Int} : ∀ {G : List Gr} {k : Nat}, k ≤ G.length → (∀ i, i < k → (G.getD i g0).a < a) → (k < G.length → a ≤ (G.getD k g0).a) → atG a G = k
  | [], k, h, _, _ => by
    have : k = 0 := by simpa using h
    simp [atG, this]
  | b :: G, k, h, h1, h2 => by
    simp only [atG]
    cases k with
    | zero =>
      have := h2 (by simp)
      simp only [List.getD_cons_zero] at this
      rw [if_neg (by omega)]
    | succ k =>
      have h0 := h1 0 (by omega)
      simp only [List.getD_cons_zero] at h0
      rw [if_pos h0, atG_of (k := k) (by simpa using h) (fun i hi => by simpa using h1 (i + 1) (by omega)) (fun hk => by simpa using h2 (by simpa using hk))]
/-- There is a group for the value. -/
def midG (a : Int) (G : List Gr) : List Gr := if atG a G < G.length ∧ (G.getD (atG a G) g0).a = a then G else G.take (atG a G) ++ ⟨a, 0, 0⟩ :: G.drop (atG a G)
theorem addG_eq (a v : Int) : ∀ G : List Gr, addG a v G = (midG a G).set (atG a G) ⟨((midG a G).getD (atG a G) g0).a, ((midG a G).getD (atG a G) g0).c + 1, ((midG a G).getD (atG a G) g0).t + v⟩
  | [] => by simp [addG, midG, atG]
  | b :: G => by
    have ih := addG_eq a v G
    simp only [addG, atG, midG] at ih ⊢
    by_cases h1 : b.a < a
    · simp only [h1, if_true, List.length_cons, Nat.add_lt_add_iff_right, List.getD_cons_succ] at ih ⊢
      by_cases h2 : atG a G < G.length ∧ (G.getD (atG a G) g0).a = a
      · simp only [h2, and_self, if_true] at ih ⊢
        simp only [List.set_cons_succ, List.getD_cons_succ]
        rw [ih, h2.2]
      · simp only [h2, if_false] at ih ⊢
        simp only [List.take_succ_cons, List.drop_succ_cons, List.cons_append, List.set_cons_succ, List.getD_cons_succ]
        rw [ih]
    · by_cases h2 : b.a = a
      · simp [h1, h2]
      · simp [h1, h2]
theorem midG_len (a : Int) (G : List Gr) : G.length ≤ (midG a G).length ∧ (midG a G).length ≤ G.length + 1 ∧ atG a G < (midG a G).length := by
  have := atG_le a G
  unfold midG
  split
  · rename_i h; omega
  · simp only [List.length_append, List.length_take, List.length_cons, List.length_drop]; omega
theorem addG_len (a v : Int) (G : List Gr) : (addG a v G).length = (midG a G).length := by rw [addG_eq]; simp
theorem addG_len1 (a v : Int) (G : List Gr) : (addG a v G).length ≤ G.length + 1 := by
  have := midG_len a G
  rw [addG_len]; omega
theorem grpL_len : ∀ L : List (Int × Int), (grpL L).length ≤ L.length := by
  intro L
  have : ∀ (L : List (Int × Int)) (G : List Gr), (L.foldl (fun G p => addG p.1 p.2 G) G).length ≤ G.length + L.length := by
    intro L
    induction L with
    | nil => intro G; simp
    | cons p L ih =>
      intro G
      have h1 := ih (addG p.1 p.2 G)
      have h2 := addG_len1 p.1 p.2 G
      simp only [List.foldl_cons, List.length_cons]
      omega
  simpa [grpL] using this L []
/-- Sums stay small. -/
def GrOk (B : Int) (G : List Gr) : Prop := ∀ b, b ∈ G → 0 ≤ b.c ∧ b.c ≤ B ∧ -(100000 * B) ≤ b.t ∧ b.t ≤ 100000 * B
theorem mem_set' {α : Type} {l : List α} {i : Nat} {x y : α} (h : y ∈ l.set i x) : y = x ∨ y ∈ l := by
  rcases List.mem_or_eq_of_mem_set h with h | h
  · exact .inr h
  · exact .inl h
theorem midG_mem {a : Int} {G : List Gr} {b : Gr} (h : b ∈ midG a G) : b = ⟨a, 0, 0⟩ ∨ b ∈ G := by
  unfold midG at h
  split at h
  · exact .inr h
  · simp only [List.mem_append, List.mem_cons] at h
    rcases h with h | h | h
    · exact .inr (List.mem_of_mem_take h)
    · exact .inl h
    · exact .inr (List.mem_of_mem_drop h)
theorem GrOk.mid {B : Int} {G : List Gr} (h : GrOk B G) (hB : 0 ≤ B) (a : Int) : GrOk B (midG a G) := fun b hb => by
  rcases midG_mem hb with rfl | hb
  · simp only []; omega
  · exact h b hb
theorem GrOk.get {B : Int} {G : List Gr} (h : GrOk B G) {i : Nat} (hi : i < G.length) : 0 ≤ (G.getD i g0).c ∧ (G.getD i g0).c ≤ B ∧ -(100000 * B) ≤ (G.getD i g0).t ∧ (G.getD i g0).t ≤ 100000 * B := by
  refine h _ ?_
  rw [List.getD_eq_getElem?_getD, List.getElem?_eq_getElem hi, Option.getD_some]
  exact List.getElem_mem _
theorem GrOk.add {B : Int} {G : List Gr} (h : GrOk B G) (hB : 0 ≤ B) {a v : Int} (hv : -100000 ≤ v ∧ v ≤ 100000) : GrOk (B + 1) (addG a v G) := by
  have hm := h.mid hB a
  have hl := midG_len a G
  rw [addG_eq]
  intro b hb
  rcases mem_set' hb with rfl | hb
  · have := hm.get hl.2.2
    simp only []; omega
  · have := hm b hb
    omega
def prL (k : Nat) (a v : Nat → Int) : List (Int × Int) := (List.range k).map fun i => (a i, v i)
theorem prL_succ (k : Nat) (a v : Nat → Int) : prL (k + 1) a v = prL k a v ++ [(a k, v k)] := by simp [prL, List.range_succ]
theorem grp_succ (k : Nat) (a v : Nat → Int) : grpL (prL (k + 1) a v) = addG (a k) (v k) (grpL (prL k a v)) := by rw [prL_succ, grpL_snoc]
theorem grp_ok {a v : Nat → Int} : ∀ {k : Nat}, (∀ i, i < k → -100000 ≤ v i ∧ v i ≤ 100000) → GrOk (k : Int) (grpL (prL k a v))
  | 0, _ => fun b hb => by simp [prL, grpL] at hb
  | k + 1, h => by
    rw [grp_succ]
    exact_mod_cast (grp_ok (k := k) fun i hi => h i (by omega)).add (by omega) (h k (by omega))
theorem addG_key {a v : Int} {b : Gr} : ∀ {G : List Gr}, b ∈ addG a v G → b.a = a ∨ ∃ c, c ∈ G ∧ c.a = b.a
  | [], h => by
    simp only [addG, List.mem_singleton] at h
    subst h; exact .inl rfl
  | g :: G, h => by
    simp only [addG] at h
    split at h
    · rcases List.mem_cons.1 h with rfl | h
      · exact .inr ⟨_, List.mem_cons_self, rfl⟩
      · rcases addG_key h with h | ⟨c, h1, h2⟩
        · exact .inl h
        · exact .inr ⟨c, List.mem_cons_of_mem _ h1, h2⟩
    · split at h
      · rename_i h2
        rcases List.mem_cons.1 h with rfl | h
        · exact .inl h2
        · exact .inr ⟨b, List.mem_cons_of_mem _ h, rfl⟩
      · rcases List.mem_cons.1 h with rfl | h
        · exact .inl rfl
        · exact .inr ⟨b, h, rfl⟩
def Asc (G : List Gr) : Prop := G.Pairwise fun x y => x.a < y.a
theorem asc_add {a v : Int} : ∀ {G : List Gr}, Asc G → Asc (addG a v G)
  | [], _ => by simp [addG, Asc]
  | g :: G, h => by
    obtain ⟨h1, h2⟩ := List.pairwise_cons.1 h
    simp only [addG]
    split
    · rename_i hg
      refine List.pairwise_cons.2 ⟨fun b hb => ?_, asc_add h2⟩
      rcases addG_key hb with e | ⟨c, hc, e⟩
      · omega
      · have := h1 c hc; omega
    · split
      · exact List.pairwise_cons.2 ⟨h1, h2⟩
      · rename_i h3 h4
        refine List.pairwise_cons.2 ⟨fun b hb => ?_, h⟩
        rcases List.mem_cons.1 hb with rfl | hb
        · simp only []; omega
        · have := h1 b hb; simp only []; omega
theorem grp_asc (a v : Nat → Int) : ∀ k, Asc (grpL (prL k a v))
  | 0 => by simp [prL, grpL, Asc]
  | k + 1 => by rw [grp_succ]; exact asc_add (grp_asc a v k)
theorem grp_key {a v : Nat → Int} {b : Gr} : ∀ {k}, b ∈ grpL (prL k a v) → ∃ i, i < k ∧ b.a = a i
  | 0, h => by simp [prL, grpL] at h
  | k + 1, h => by
    rw [grp_succ] at h
    rcases addG_key h with h | ⟨c, h1, h2⟩
    · exact ⟨k, by omega, h⟩
    · obtain ⟨i, h3, h4⟩ := grp_key h1
      exact ⟨i, by omega, by rw [← h2]; exact h4⟩
theorem getD_mem' {G : List Gr} {i : Nat} (h : i < G.length) : G.getD i g0 ∈ G := by
  rw [List.getD_eq_getElem?_getD, List.getElem?_eq_getElem h, Option.getD_some]
  exact List.getElem_mem _
theorem at_end {a : Int} {G : List Gr} (h : ∀ b, b ∈ G → b.a < a) : atG a G = G.length ∧ midG a G = G ++ [⟨a, 0, 0⟩] := by
  have e : atG a G = G.length := atG_of (Nat.le_refl _) (fun i hi => h _ (getD_mem' hi)) fun hk => absurd hk (Nat.lt_irrefl _)
  refine ⟨e, ?_⟩
  unfold midG
  rw [e, if_neg fun h => Nat.lt_irrefl _ h.1]
  simp
theorem at_last {a : Int} {G : List Gr} (hs : Asc G) (hN : 0 < G.length) (h : (G.getD (G.length - 1) g0).a = a) : atG a G = G.length - 1 ∧ midG a G = G := by
  have e : atG a G = G.length - 1 := atG_of (by omega) (fun i hi => by
    have := List.pairwise_iff_getElem.1 hs i (G.length - 1) (by omega) (by omega) hi
    rw [List.getD_eq_getElem?_getD, List.getElem?_eq_getElem (by omega), Option.getD_some]
    rw [List.getD_eq_getElem?_getD, List.getElem?_eq_getElem (by omega), Option.getD_some] at h
    omega) fun hk => by omega
  refine ⟨e, ?_⟩
  unfold midG
  rw [e, if_pos ⟨by omega, h⟩]
theorem asc_lt {a : Int} {G : List Gr} (hs : Asc G) (hN : 0 < G.length) (hle : ∀ b, b ∈ G → b.a ≤ a) (h : (G.getD (G.length - 1) g0).a ≠ a) : ∀ b, b ∈ G → b.a < a := by
  intro b hb
  obtain ⟨i, hi, rfl⟩ := List.getElem_of_mem hb
  rw [List.getD_eq_getElem?_getD, List.getElem?_eq_getElem (by omega), Option.getD_some] at h
  have h1 := hle _ (List.getElem_mem (l := G) (n := G.length - 1) (by omega))
  by_cases e : i = G.length - 1
  · subst e; omega
  · have := List.pairwise_iff_getElem.1 hs i (G.length - 1) hi (by omega) (by omega)
    omega
theorem hG_set {M : List Gr} {l : Nat} (h : l < M.length) (g : Gr) (i j : Nat) : hG (M.set l g) i j = if i = l then g.col j else hG M i j := by
  simp only [hG, List.getD_eq_getElem?_getD, List.getElem?_set]
  by_cases e : l = i
  · subst e; simp [h]
  · have e' : ¬ i = l := fun x => e x.symm
    simp [e, e']
theorem hG_app {M : List Gr} {g : Gr} (i j : Nat) (hi : i < M.length + 1) : hG (M ++ [g]) i j = if i < M.length then hG M i j else g.col j := by
  simp only [hG, List.getD_eq_getElem?_getD]
  by_cases h : i < M.length
  · rw [List.getElem?_append_left h, if_pos h]
  · rw [List.getElem?_append_right (by omega), if_neg h, show i - M.length = 0 by omega]; rfl
/-! ### pairs of a table -/
def pairL (A : List (List Int)) : List (Int × Int) := A.map fun r => (r.getD 0 0, r.getD 1 0)
theorem prL_of {A : List (List Int)} {m : Nat} (h : A.length = m) : prL m (fun i => hL A i 0) (fun i => hL A i 1) = pairL A := by
  subst h
  apply List.ext_getElem
  · simp [prL, pairL]
  · intro i h1 h2
    have hi : i < A.length := by simpa [prL] using h1
    simp [prL, pairL, hL, List.getD_eq_getElem?_getD, hi]
theorem pair_tab (m : Nat) (h : Nat → Nat → Int) : pairL (tabL m (fun _ => 2) h) = prL m (fun i => h i 0) (fun i => h i 1) := by
  simp only [pairL, tabL, prL, List.map_map]
  refine List.map_congr_left fun i _ => ?_
  simp only [Function.comp, rowL_get (show 0 < 2 by decide), rowL_get (show 1 < 2 by decide)]
theorem lt_first {x y : List Int} (hx : 0 < x.length) (hy : 0 < y.length) (h : ltL y x = false) : x.getD 0 0 ≤ y.getD 0 0 := by
  match x, y, hx, hy with
  | a :: x, b :: y, _, _ =>
    simp only [ltL, lexL, decide_eq_false_iff_not] at h
    simp only [List.getD_cons_zero]
    by_cases h1 : b < a
    · simp [h1] at h
    · omega
end Go.Gw
