/- Weakening of states by computation, and what is left to be shown of a function; with no condition. -/
import Derived.Test.YtopnhnnfobbocaaDoorGw25
namespace Go.Gw
open Go
set_option linter.unusedVariables false
set_option linter.unusedSimpArgs false

theorem PV.Le_v {x y : Value} : PV.Le (.v x) (.v y) ↔ x = y := ⟨fun h => by cases h; rfl, fun h => h ▸ .refl _⟩

theorem PV.Le_self {c : PV} : PV.Le c c ↔ True := ⟨fun _ => trivial, fun _ => .refl _⟩
/-- The same data, cell by cell, by computation. -/
def PV.leC : PV → PV → Prop
  | .nm x c, d => match d with
    | .nm y e => x = y ∧ PV.leC c e
    | d => PV.leC c d
  | .v x, .v y => x = y
  | .v x, .sl nn' esz' n' g' => x = .slice none 0 0 ∧ nn' = false ∧ n' = 0
  | .sl nn esz n g, .sl nn' esz' n' g' => (nn' = true → nn = true) ∧ esz = esz' ∧ n = n' ∧ ∀ i j, i < n → j < esz → PV.Le (g i j) (g' i j)
  | .pp m h, .pp m' h' => m = m' ∧ ∀ j, j < m → PV.Le (h j) (h' j)
  | _, .any => True
  | c, d => c = d

theorem PV.leC_ok : ∀ {c d : PV}, PV.leC c d → PV.Le c d
  | .nm x c, d, h => by
    unfold PV.leC at h
    split at h
    · obtain ⟨rfl, h⟩ := h; exact .nms _ _ _ (PV.leC_ok h)
    · exact .nm _ _ _ (PV.leC_ok h)
  | .v x, d, h => by
    cases d <;> simp only [PV.leC] at h
    case v => exact h ▸ .refl _
    case sl => obtain ⟨rfl, rfl, rfl⟩ := h; exact .nil _ _
    case any => exact .any _
    all_goals cases h
  | .sl nn esz n g, d, h => by
    cases d <;> simp only [PV.leC] at h
    case sl => obtain ⟨h1, rfl, h2, h3⟩ := h; exact .sl _ _ h1 _ _ _ _ _ h2 h3
    case any => exact .any _
    all_goals cases h
  | .pp m h', d, h => by
    cases d <;> simp only [PV.leC] at h
    case pp => obtain ⟨rfl, h3⟩ := h; exact .pp _ _ _ h3
    case any => exact .any _
    all_goals cases h
  | .cl f a b, d, h => by
    cases d <;> simp only [PV.leC] at h
    case any => exact .any _
    case cl => cases h; exact .refl _
    all_goals cases h
  | .any, d, h => by
    cases d <;> simp only [PV.leC] at h
    case any => exact .any _
    all_goals cases h

theorem PV.Le_sl {nn nn' : Bool} {esz esz' n n' : Nat} {g g' : Nat → Nat → PV} (h : (nn' = true → nn = true) ∧ esz = esz' ∧ n = n' ∧ ∀ i j, i < n → j < esz → PV.Le (g i j) (g' i j)) : PV.Le (.sl nn esz n g) (.sl nn' esz' n' g') := by
  obtain ⟨h1, rfl, h2, h3⟩ := h
  exact .sl _ _ h1 _ _ _ _ _ h2 h3

def rho (ρ : List (Nat × Nat)) (j : Nat) : Nat := (look ρ j).getD j
def isNew (nw : List Nat) (j : Nat) : Bool := nw.contains j
def keptC (H : List (Nat × Ob)) (ρ : List (Nat × Nat)) (nw : List Nat) (i : Nat) : Bool := H.any fun x => !isNew nw x.1 && rho ρ x.1 == i

def PV.isVal : PV → Bool
  | .v _ => true
  | _ => false

def PV.isNilSl : PV → Bool
  | .v (.slice none 0 0) => true
  | _ => false

theorem PV.isNilSl_ok {c : PV} (h : c.isNilSl = true) : c = .v (.slice none 0 0) := by
  unfold PV.isNilSl at h
  split at h
  · rfl
  · cases h

def Mode.isZ : Mode → Bool
  | .z => true
  | _ => false

mutual
def AV.leC (s : St) (H : List (Nat × Ob)) (ρ : List (Nat × Nat)) (nw : List Nat) : AV → AV → Prop
  | .p fr c, .p fr' d => (fr' = true → fr = true ∨ (c.isVal = true ∧ d.isVal = true)) ∧ PV.leC c d
  | .p _ c, .own i => c.isNilSl = true ∧ isNew nw i = true
  | .own i, .own j => i = rho ρ j ∧ isNew nw j = false
  | .own i, .p fr' d => match s.obj i with
    | some (.row m nn esz n g []) => (fr' = true → m.isZ = false) ∧ keptC H ρ nw i = false ∧ PV.leC (.sl nn esz n g) d
    | _ => d = .any ∧ fr' = false
  | .adr i o, .adr j o' => i = rho ρ j ∧ o = o' ∧ isNew nw j = false
  | .elt i a b c, .elt j a' b' c' => i = rho ρ j ∧ a = a' ∧ b = b' ∧ c = c' ∧ isNew nw j = false
  | .ag cs, .ag ds => AV.leCs s H ρ nw cs ds
  | .tp cs, .tp ds => AV.leCs s H ρ nw cs ds
  | .cl f a b, .cl f' a' b' => f = f' ∧ AV.leCs s H ρ nw a a' ∧ AV.leCs s H ρ nw b b'
  | _, .p fr d => d = .any ∧ fr = false
  | _, _ => False
def AV.leCs (s : St) (H : List (Nat × Ob)) (ρ : List (Nat × Nat)) (nw : List Nat) : List AV → List AV → Prop
  | [], [] => True
  | c :: cs, d :: ds => AV.leC s H ρ nw c d ∧ AV.leCs s H ρ nw cs ds
  | _, _ => False
end

theorem keptC_ok {H : List (Nat × Ob)} {ρ : List (Nat × Nat)} {nw : List Nat} {i : Nat} (h : keptC H ρ nw i = false) : ¬ keptBy (rho ρ) (isNew nw) H i := by
  rintro ⟨x, h1, h2, h3⟩
  have := List.any_eq_false.1 h x h1
  simp [h2, h3] at this

theorem any_ok {s : St} {H : List (Nat × Ob)} {ρ : List (Nat × Nat)} {nw : List Nat} {c : AV} {fr : Bool} {d : PV} (h : d = .any ∧ fr = false) : AvLe s (rho ρ) (isNew nw) (keptBy (rho ρ) (isNew nw) H) c (.p fr d) := by
  obtain ⟨rfl, rfl⟩ := h; exact .any _

mutual
theorem AV.leC_ok {s : St} {H : List (Nat × Ob)} {ρ : List (Nat × Nat)} {nw : List Nat} : ∀ (c d : AV), AV.leC s H ρ nw c d → AvLe s (rho ρ) (isNew nw) (keptBy (rho ρ) (isNew nw) H) c d
  | .p fr c, .p fr' d, h => by
    simp only [AV.leC] at h
    obtain ⟨h1, h2⟩ := h
    cases fr' with
    | false => exact .leo _ _ _ (PV.leC_ok h2)
    | true =>
      rcases h1 rfl with rfl | ⟨h1, h3⟩
      · exact .le _ _ _ (PV.leC_ok h2)
      · cases c <;> simp only [PV.isVal, Bool.false_eq_true] at h1
        cases d <;> simp only [PV.isVal, Bool.false_eq_true] at h3
        simp only [PV.leC] at h2
        subst h2
        exact .sc _ _ _
  | .p fr c, .own i, h => by
    simp only [AV.leC] at h
    cases PV.isNilSl_ok h.1
    exact .nil _ _ h.2
  | .p _ _, .adr _ _, h => by simp [AV.leC] at h
  | .p _ _, .elt _ _ _ _, h => by simp [AV.leC] at h
  | .p _ _, .ag _, h => by simp [AV.leC] at h
  | .p _ _, .tp _, h => by simp [AV.leC] at h
  | .p _ _, .cl _ _ _, h => by simp [AV.leC] at h
  | .own i, .own j, h => by
    simp only [AV.leC] at h
    obtain ⟨rfl, h⟩ := h
    exact .own _ h
  | .own i, .p fr' d, h => by
    simp only [AV.leC] at h
    split at h
    · rename_i m nn esz n g ho
      obtain ⟨h1, h2, h3⟩ := h
      cases fr' with
      | false => exact .frz' i m nn esz n g d ho (keptC_ok h2) (PV.leC_ok h3)
      | true =>
        refine .frz i m nn esz n g d ho (keptC_ok h2) (fun e => ?_) (PV.leC_ok h3)
        subst e
        exact absurd (h1 rfl) (by simp [Mode.isZ])
    · exact any_ok h
  | .own _, .adr _ _, h => by simp [AV.leC] at h
  | .own _, .elt _ _ _ _, h => by simp [AV.leC] at h
  | .own _, .ag _, h => by simp [AV.leC] at h
  | .own _, .tp _, h => by simp [AV.leC] at h
  | .own _, .cl _ _ _, h => by simp [AV.leC] at h
  | .adr i o, .adr j o', h => by
    simp only [AV.leC] at h
    obtain ⟨rfl, rfl, h⟩ := h
    exact .adr _ _ h
  | .adr _ _, .p fr d, h => by simp only [AV.leC] at h; exact any_ok h
  | .adr _ _, .own _, h => by simp [AV.leC] at h
  | .adr _ _, .elt _ _ _ _, h => by simp [AV.leC] at h
  | .adr _ _, .ag _, h => by simp [AV.leC] at h
  | .adr _ _, .tp _, h => by simp [AV.leC] at h
  | .adr _ _, .cl _ _ _, h => by simp [AV.leC] at h
  | .elt i a b c, .elt j a' b' c', h => by
    simp only [AV.leC] at h
    obtain ⟨rfl, rfl, rfl, rfl, h⟩ := h
    exact .elt _ _ _ _ h
  | .elt _ _ _ _, .p fr d, h => by simp only [AV.leC] at h; exact any_ok h
  | .elt _ _ _ _, .own _, h => by simp [AV.leC] at h
  | .elt _ _ _ _, .adr _ _, h => by simp [AV.leC] at h
  | .elt _ _ _ _, .ag _, h => by simp [AV.leC] at h
  | .elt _ _ _ _, .tp _, h => by simp [AV.leC] at h
  | .elt _ _ _ _, .cl _ _ _, h => by simp [AV.leC] at h
  | .ag cs, .ag ds, h => by
    simp only [AV.leC] at h
    exact .ag _ _ (AV.leCs_ok cs ds h).1 (AV.leCs_ok cs ds h).2
  | .ag _, .p fr d, h => by simp only [AV.leC] at h; exact any_ok h
  | .ag _, .own _, h => by simp [AV.leC] at h
  | .ag _, .adr _ _, h => by simp [AV.leC] at h
  | .ag _, .elt _ _ _ _, h => by simp [AV.leC] at h
  | .ag _, .tp _, h => by simp [AV.leC] at h
  | .ag _, .cl _ _ _, h => by simp [AV.leC] at h
  | .tp cs, .tp ds, h => by
    simp only [AV.leC] at h
    exact .tp _ _ (AV.leCs_ok cs ds h).1 (AV.leCs_ok cs ds h).2
  | .tp _, .p fr d, h => by simp only [AV.leC] at h; exact any_ok h
  | .tp _, .own _, h => by simp [AV.leC] at h
  | .tp _, .adr _ _, h => by simp [AV.leC] at h
  | .tp _, .elt _ _ _ _, h => by simp [AV.leC] at h
  | .tp _, .ag _, h => by simp [AV.leC] at h
  | .tp _, .cl _ _ _, h => by simp [AV.leC] at h
  | .cl f a b, .cl f' a' b', h => by
    simp only [AV.leC] at h
    obtain ⟨rfl, h1, h2⟩ := h
    exact .cl _ _ _ _ _ (AV.leCs_ok a a' h1).1 (AV.leCs_ok b b' h2).1 (AV.leCs_ok a a' h1).2 (AV.leCs_ok b b' h2).2
  | .cl _ _ _, .p fr d, h => by simp only [AV.leC] at h; exact any_ok h
  | .cl _ _ _, .own _, h => by simp [AV.leC] at h
  | .cl _ _ _, .adr _ _, h => by simp [AV.leC] at h
  | .cl _ _ _, .elt _ _ _ _, h => by simp [AV.leC] at h
  | .cl _ _ _, .ag _, h => by simp [AV.leC] at h
  | .cl _ _ _, .tp _, h => by simp [AV.leC] at h
theorem AV.leCs_ok {s : St} {H : List (Nat × Ob)} {ρ : List (Nat × Nat)} {nw : List Nat} : ∀ (cs ds : List AV), AV.leCs s H ρ nw cs ds →
    cs.length = ds.length ∧ ∀ (j : Nat) (c d : AV), cs[j]? = some c → ds[j]? = some d → AvLe s (rho ρ) (isNew nw) (keptBy (rho ρ) (isNew nw) H) c d
  | [], [], h => ⟨rfl, fun j c d h => by simp at h⟩
  | c :: cs, d :: ds, h => by
    simp only [AV.leCs] at h
    have := AV.leCs_ok cs ds h.2
    refine ⟨by simp [this.1], fun j x y hx hy => ?_⟩
    cases j with
    | zero =>
      simp only [List.getElem?_cons_zero, Option.some.injEq] at hx hy
      subst hx
      subst hy
      exact AV.leC_ok c d h.1
    | succ j => exact this.2 j x y (by simpa using hx) (by simpa using hy)
  | [], _ :: _, h => by simp [AV.leCs] at h
  | _ :: _, [], h => by simp [AV.leCs] at h
end

def leEnv (s : St) (H : List (Nat × Ob)) (ρ : List (Nat × Nat)) (nw : List Nat) : List (Nat × AV) → Prop
  | [] => True
  | (t, c) :: r => AV.leC s H ρ nw (s.get t) c ∧ leEnv s H ρ nw r

def renH (ρ : List (Nat × Nat)) (hl : List (Nat × Nat × Nat)) : List (Nat × Nat × Nat) := hl.map fun x => (x.1, x.2.1, rho ρ x.2.2)

def obLe (s : St) (H : List (Nat × Ob)) (ρ : List (Nat × Nat)) (nw : List Nat) (j : Nat) : Ob → Prop
  | .box ds => isNew nw j = false ∧ match s.obj (rho ρ j) with
    | some (.box cs) => AV.leCs s H ρ nw cs ds
    | _ => False
  | .row m' nn' esz' n' g' hl' => match isNew nw j with
    | true => n' = 0 ∧ nn' = false ∧ hl' = []
    | false => match s.obj (rho ρ j) with
      | some (.row m nn esz n g hl) => m.ok m' = true ∧ (nn' = true → nn = true) ∧ esz = esz' ∧ n = n' ∧ hl = renH ρ hl' ∧ (hl'.all fun x => !isNew nw x.2.2) = true ∧ ∀ i j, i < n → j < esz → PV.Le (g i j) (g' i j)
      | _ => False
  | .map f' n' => isNew nw j = false ∧ match s.obj (rho ρ j) with
    | some (.map f n) => n = n' ∧ ∀ k, f k = f' k
    | _ => False

def leObs (s : St) (H : List (Nat × Ob)) (ρ : List (Nat × Nat)) (nw : List Nat) : List (Nat × Ob) → Prop
  | [] => True
  | (j, o) :: r => obLe s H ρ nw j o ∧ leObs s H ρ nw r

def injB (ρ : List (Nat × Nat)) (nw : List Nat) : List (Nat × Ob) → Bool
  | [] => true
  | (j, _) :: r => (isNew nw j || r.all fun x => isNew nw x.1 || x.1 == j || rho ρ x.1 != rho ρ j) && injB ρ nw r

def pinC (ρ : List (Nat × Nat)) (nw : List Nat) : Bool := (ρ.all fun x => Nat.blt x.1 hbs || x.1 == x.2) && nw.all fun i => Nat.blt i hbs

def stLe (s s' : St) (ρ : List (Nat × Nat)) (nw : List Nat) : Prop := leEnv s s'.H ρ nw s'.env ∧ leObs s s'.H ρ nw s'.H ∧ injB ρ nw s'.H = true ∧ pinC ρ nw = true

theorem leEnv_mem {s : St} {H : List (Nat × Ob)} {ρ : List (Nat × Nat)} {nw : List Nat} : ∀ {l : List (Nat × AV)} {t : Nat} {c : AV}, leEnv s H ρ nw l → (t, c) ∈ l → AV.leC s H ρ nw (s.get t) c
  | (u, d) :: r, t, c, h, hm => by
    rcases List.mem_cons.1 hm with e | hm
    · cases e; exact h.1
    · exact leEnv_mem h.2 hm

theorem leObs_mem {s : St} {H : List (Nat × Ob)} {ρ : List (Nat × Nat)} {nw : List Nat} : ∀ {l : List (Nat × Ob)} {t : Nat} {c : Ob}, leObs s H ρ nw l → (t, c) ∈ l → obLe s H ρ nw t c
  | (u, d) :: r, t, c, h, hm => by
    rcases List.mem_cons.1 hm with e | hm
    · cases e; exact h.1
    · exact leObs_mem h.2 hm

theorem injB_ok {ρ : List (Nat × Nat)} {nw : List Nat} : ∀ {l : List (Nat × Ob)} {j j' : Nat} {o o' : Ob}, injB ρ nw l = true → (j, o) ∈ l → (j', o') ∈ l → isNew nw j = false → isNew nw j' = false → rho ρ j = rho ρ j' → j = j'
  | (u, d) :: r, j, j', o, o', h, hm, hm', hn, hn', he => by
    simp only [injB, Bool.and_eq_true, Bool.or_eq_true, List.all_eq_true] at h
    rcases List.mem_cons.1 hm with e | hm1 <;> rcases List.mem_cons.1 hm' with e' | hm1'
    · cases e; cases e'; rfl
    · cases e
      rcases h.1 with h1 | h1
      · rw [hn] at h1; cases h1
      · have := h1 _ hm1'
        simp [hn'] at this
        rcases this with h2 | h2
        · exact h2.symm
        · exact (h2 he.symm).elim
    · cases e'
      rcases h.1 with h1 | h1
      · rw [hn'] at h1; cases h1
      · have := h1 _ hm1
        simp [hn] at this
        rcases this with h2 | h2
        · exact h2
        · exact (h2 he).elim
    · exact injB_ok h.2 hm1 hm1' hn hn' he

theorem obsLe_ok {s : St} {H : List (Nat × Ob)} {ρ : List (Nat × Nat)} {nw : List Nat} (h : leObs s H ρ nw H) (hi : injB ρ nw H = true) : ObsLe s H (rho ρ) (isNew nw) where
  obs := fun j o' ho => by
    have := leObs_mem h (look_mem ho)
    cases o' with
    | box ds =>
      simp only [obLe] at this
      obtain ⟨h1, h2⟩ := this
      split at h2
      · rename_i cs hc
        exact .inl ⟨h1, _, hc, .box _ _ (AV.leCs_ok cs ds h2).1 (AV.leCs_ok cs ds h2).2⟩
      · exact h2.elim
    | row m' nn' esz' n' g' hl' =>
      simp only [obLe] at this
      split at this
      · rename_i hn
        obtain ⟨rfl, rfl, rfl⟩ := this
        exact .inr ⟨hn, _, _, _, rfl⟩
      · rename_i hn
        split at this
        · rename_i m nn esz n g hl ho2
          obtain ⟨h1, h2, rfl, h3, h4, h5, h6⟩ := this
          refine .inl ⟨hn, _, ho2, .row _ _ _ _ _ _ _ _ _ _ _ h1 h2 h3 h4 (fun x hx => ?_) h6⟩
          have := List.all_eq_true.1 h5 x hx
          simpa using this
        · exact this.elim
    | map f' n' =>
      simp only [obLe] at this
      obtain ⟨h1, h2⟩ := this
      split at h2
      · rename_i f n ho2
        exact .inl ⟨h1, _, ho2, .map _ _ _ _ h2.1 h2.2⟩
      · exact h2.elim
  inj := fun j j' h1 h2 h3 h4 h5 => by
    cases hj : look H j with
    | none => rw [hj] at h1; cases h1
    | some o =>
      cases hj' : look H j' with
      | none => rw [hj'] at h2; cases h2
      | some o' => exact injB_ok hi (look_mem hj) (look_mem hj') h3 h4 h5

theorem pinC_ok {ρ : List (Nat × Nat)} {nw : List Nat} (h : pinC ρ nw = true) {j : Nat} (hj : hbs ≤ j) : isNew nw j = false ∧ rho ρ j = j := by
  simp only [pinC, Bool.and_eq_true, List.all_eq_true] at h
  constructor
  · unfold isNew
    cases hc : nw.contains j with
    | false => rfl
    | true =>
      have := h.2 j (by simpa using hc)
      simp [Nat.blt_eq] at this
      omega
  · unfold rho
    cases hl : look ρ j with
    | none => rfl
    | some k =>
      have := h.1 _ (look_mem hl)
      simp only [Bool.or_eq_true, Nat.blt_eq, beq_iff_eq] at this
      rcases this with h1 | h1
      · omega
      · simp [h1]

theorem stLe_ok {s s' : St} {ρ : List (Nat × Nat)} {nw : List Nat} (h : stLe s s' ρ nw) : StLe s s' (rho ρ) (isNew nw) where
  env := fun t => by
    unfold St.get
    cases hl : look s'.env t with
    | none => exact .any _
    | some c => exact AV.leC_ok _ _ (leEnv_mem h.1 (look_mem hl))
  obs := obsLe_ok h.2.1 h.2.2.1
  pin := fun j hj => pinC_ok h.2.2.2 hj

theorem Wk.mk {s s' : St} (lw : List (Nat × Mode)) (ρ : List (Nat × Nat)) (nw : List Nat) (h : stLe (s.lowers lw) s' ρ nw) : Wk s s' := (Wk.lowers lw s).trans (stLe_ok h).wk

theorem Again.mk {σ : Type} {st : σ → St} {inv : σ → Prop} {μ : σ → Nat} {x : σ} {s' : St} (x' : σ) (lw : List (Nat × Mode)) (ρ : List (Nat × Nat)) (nw : List Nat) (h1 : inv x') (h2 : μ x' < μ x) (h3 : stLe (s'.lowers lw) (st x') ρ nw) : Again st inv μ x s' :=
  ⟨x', h1, h2, Wk.mk lw ρ nw h3⟩

/-- The objects that were handed over keep their names. -/
def pinR (H0 H' : List (Nat × Ob)) (ρ : List (Nat × Nat)) (nw : List Nat) : Bool := H0.all fun x => !(look H' x.1).isSome || (!isNew nw x.1 && rho ρ x.1 == x.1 + hbs)

/-- What is returned, by computation. -/
def doneC (rl : List RI) (H0 : List (Nat × Ob)) (s : St) (ρ : List (Nat × Nat)) (nw : List Nat) (r : AV) (H' : List (Nat × Ob)) : Prop :=
  match resOf rl s with
  | some c => AV.leC s H' ρ nw c r ∧ leObs s H' ρ nw H' ∧ injB ρ nw H' = true ∧ pinR H0 H' ρ nw = true
  | none => False

theorem ResOk.mk {rl : List RI} {H0 : List (Nat × Ob)} {s : St} {R : AV → List (Nat × Ob) → Prop} (lw : List (Nat × Mode)) (ρ : List (Nat × Nat)) (nw : List Nat) (r : AV) (H' : List (Nat × Ob))
    (h : doneC rl H0 (s.lowers lw) ρ nw r H') (hR : R r H') : ResOk rl H0 s R := by
  unfold doneC at h
  split at h
  · rename_i c hc
    refine ⟨s.lowers lw, c, Wk.lowers lw s, hc, r, H', Wr.of (AV.leC_ok _ _ h.1) (obsLe_ok h.2.1 h.2.2.1) (fun i h1 h2 => ?_), hR⟩
    have h3 := h.2.2.2
    simp only [pinR, List.all_eq_true] at h3
    cases hl : look H0 i with
    | none => rw [hl] at h1; cases h1
    | some o =>
      have := h3 _ (look_mem hl)
      simp only [h2, Bool.not_true, Bool.false_or, Bool.and_eq_true, Bool.not_eq_true', beq_iff_eq] at this
      exact this
  · exact h.elim

section
variable {P : Program} {G : List (Nat × PV)} {rl : List RI} {H0 : List (Nat × Ob)} {R : AV → List (Nat × Ob) → Prop}

/-- What is left to be done, by what it comes to; less may be known first. -/
theorem M.by {x : Ir} {k : List Item} {s s' : St} (lw : List (Nat × Mode)) (ρ : List (Nat × Nat)) (nw : List Nat) (hs : stLe (s.lowers lw) s' ρ nw) {n : Nat} {or : Or} {vc : VC} (he : Go.Gw.ev G rl H0 n or (.ir x :: k) s' = vc) (h : vc.holds P G rl H0 R) :
    M P G (Post rl H0 R) (.ir x :: k) s := M.wk (Wk.mk lw ρ nw hs) (ev_ok n _ _ _ (he.symm ▸ h))

/-- A loop by its relation, by what its rounds come to. -/
theorem loop_by {b : Ir} {k : List Item} {s : St} {σ : Type} (st : σ → St) (inv : σ → Prop) (μ : σ → Nat) (x0 : σ) (lw : List (Nat × Mode)) (ρ : List (Nat × Nat)) (nw : List Nat) (h0 : inv x0) (hs : stLe (s.lowers lw) (st x0) ρ nw)
    {n : Nat} {or : (σ → St → Prop) → σ → Or} {vc : (σ → St → Prop) → σ → VC} (he : ∀ (I : σ → St → Prop) x, ev G rl H0 n (or I x) (.ir b :: .lend (I x) :: k) (st x) = vc I x)
    (hr : ∀ x, inv x → (vc (Again st inv μ) x).holds P G rl H0 R) : (VC.loop b k s).holds P G rl H0 R :=
  MLoop.mk st inv μ x0 h0 (Wk.mk lw ρ nw hs) fun x hx => ev_ok n _ _ _ ((he _ x).symm ▸ hr x hx)

theorem PCall.by {f : FuncId} {args : List AV} {H : List (Nat × Ob)} {keep : List Nat} {ir : Ir} {n : Nat} {or : Or} {vc : VC}
    (hc : chk P f args.length keep = some (ir, rl)) (hh : noHoles H = true) (he : Go.Gw.ev G rl H n or [.ir ir] (start args H) = vc) (h : vc.holds P G rl H R) : PCall P G f args H R :=
  PCall.ev hc hh (he.symm ▸ h)

theorem PObj.by {f : FuncId} {args : List AV} {H : List (Nat × Ob)} {r : AV} {H' : List (Nat × Ob)} {keep : List Nat} {ir : Ir} {n : Nat} {or : Or} {vc : VC}
    (hc : chk P f args.length keep = some (ir, rl)) (hh : noHoles H = true) (he : Go.Gw.ev G rl H n or [.ir ir] (start args H) = vc) (h : vc.holds P G rl H (fun x h => x = r ∧ h = H')) : PObj P G f args H r H' :=
  PCall.ev hc hh (he.symm ▸ h)

theorem PRet.by {f : FuncId} {args : List AV} {r : AV} {keep : List Nat} {ir : Ir} {n : Nat} {or : Or} {vc : VC}
    (hc : chk P f args.length keep = some (ir, rl)) (he : Go.Gw.ev G rl [] n or [.ir ir] (start args []) = vc) (h : vc.holds P G rl [] (fun x h => x = r ∧ h = [])) : PRet P G f args r :=
  PCall.ev hc rfl (he.symm ▸ h)

theorem VC.holds_fail : (VC.fail).holds P G rl H0 R = False := rfl
theorem VC.holds_doneP {c : AV} : (VC.doneP c).holds P G rl H0 R = R c [] := rfl
theorem VC.holds_done {s : St} : (VC.done s).holds P G rl H0 R = ResOk rl H0 s R := rfl
theorem VC.holds_need {p : Prop} {v : VC} : (VC.need p v).holds P G rl H0 R = (p ∧ v.holds P G rl H0 R) := rfl
theorem VC.holds_split {b : Bool} {t f : VC} : (VC.split b t f).holds P G rl H0 R = ((b = true → t.holds P G rl H0 R) ∧ (b = false → f.holds P G rl H0 R)) := rfl
theorem VC.holds_either {p : Prop} {t f : VC} : (VC.either p t f).holds P G rl H0 R = ((p → t.holds P G rl H0 R) ∧ f.holds P G rl H0 R) := rfl
theorem VC.holds_call {f : FuncId} {args : List AV} {H : List (Nat × Ob)} {r : AV} {H' : List (Nat × Ob)} {v : VC} : (VC.call f args H r H' v).holds P G rl H0 R = (PObj P G f args H r H' ∧ v.holds P G rl H0 R) := rfl
theorem VC.holds_callE {α : Type} {f : FuncId} {args : List AV} {H : List (Nat × Ob)} {φ : α → Prop} {r : α → AV} {H' : α → List (Nat × Ob)} {v : α → VC} : (VC.callE α f args H φ r H' v).holds P G rl H0 R = (PSome P G f args H α φ r H' ∧ ∀ x, φ x → (v x).holds P G rl H0 R) := rfl
theorem VC.holds_lend {I : St → Prop} {s : St} : (VC.lend I s).holds P G rl H0 R = I s := rfl
theorem VC.holds_stop {k : List Item} {s : St} : (VC.stop k s).holds P G rl H0 R = M P G (Post rl H0 R) k s := rfl
end
end Go.Gw
