/- Weakening of states by computation, and what is left to be shown of a function; with no condition. -/
import Derived.Test.YtigaelckdbeecaaGreatDoorGw25
import Derived.ChangeSame
import Derived.RowKit3
import Derived.ChangeArms
import Derived.Carry
import Derived.OpenShut
import Derived.Handed
import Derived.ChangeOld
import Derived.MakeChecks
namespace Go.Gw
open Go
set_option linter.unusedVariables false
set_option linter.unusedSimpArgs false
theorem PV.Le_v {x y : Value} : PV.Le (.v x) (.v y) ↔ x = y := ⟨fun h => by cases h; rfl, fun h => h ▸ .refl _⟩
theorem PV.Le_self {c : PV} : PV.Le c c ↔ True := ⟨fun _ => trivial, fun _ => .refl _⟩
def PV.leC : PV → PV → Prop
  | .nm x c, d => match d with
    | .nm y e => x = y ∧ PV.leC c e
    | d => PV.leC c d
  | .v x, .v y => x = y
  | .v x, .sl nn' esz' n' g' => x = .slice none 0 0 ∧ nn' = false ∧ n' = 0
  | .sl nn esz n g, .sl nn' esz' n' g' => (nn' = true → nn = true) ∧ esz = esz' ∧ n = n' ∧ ∀ i j, i < n → j < esz → PV.Le (g i j) (g' i j)
  | .pp m h, .pp m' h' => m = m' ∧ ∀ j, j < m → PV.Le (h j) (h' j)
  | _, .any => True
  | c, d => c = d
theorem PV.leC_ok : ∀ {c d : PV}, PV.leC c d → PV.Le c d
  | .nm x c, d, h => by
    unfold PV.leC at h
    split at h
    · obtain ⟨rfl, h⟩ := h; exact .nms _ _ _ (PV.leC_ok h)
    · exact .nm _ _ _ (PV.leC_ok h)
  | .v x, d, h => by
    cases d <;> simp only [PV.leC] at h
    case v => exact h ▸ .refl _
    case sl => obtain ⟨rfl, rfl, rfl⟩ := h; exact .nil _ _
    case any => exact .any _
    all_goals cases h
  | .sl nn esz n g, d, h => by
    cases d <;> simp only [PV.leC] at h
    case sl => obtain ⟨h1, rfl, h2, h3⟩ := h; exact .sl _ _ h1 _ _ _ _ _ h2 h3
    case any => exact .any _
    all_goals cases h
  | .pp m h', d, h => by
    cases d <;> simp only [PV.leC] at h
    case pp => obtain ⟨rfl, h3⟩ := h; exact .pp _ _ _ h3
    case any => exact .any _
    all_goals cases h
  | .cl f a b, d, h => by
    cases d <;> simp only [PV.leC] at h
    case any => exact .any _
    case cl => cases h; exact .refl _
    all_goals cases h
  | .any, d, h => by
    cases d <;> simp only [PV.leC] at h
    case any => exact .any _
    all_goals cases h
def rho (ρ : List (Nat × Nat)) (j : Nat) : Nat := (look ρ j).getD j
def isNew (nw : List Nat) (j : Nat) : Bool := nw.contains j
def keptC (H : List (Nat × Ob)) (ρ : List (Nat × Nat)) (nw : List Nat) (i : Nat) : Bool := H.any fun x => !isNew nw x.1 && rho ρ x.1 == i
def PV.isVal : PV → Bool
  | .v _ => true
  | _ => false
def PV.isNilSl : PV → Bool
  | .v (.slice none 0 0) => true
  | _ => false
theorem PV.isNilSl_ok {c : PV} (h : c.isNilSl = true) : c = .v (.slice none 0 0) := by
  unfold PV.isNilSl at h
  split at h
  · rfl
  · cases h
def Mode.isZ : Mode → Bool
  | .z => true
  | _ => false
mutual
def AV.leC (s : St) (H : List (Nat × Ob)) (ρ : List (Nat × Nat)) (nw : List Nat) : AV → AV → Prop
  | .p fr c, .p fr' d => (fr' = true → fr = true ∨ (c.isVal = true ∧ d.isVal = true)) ∧ PV.leC c d
  | .p _ c, .own i => c.isNilSl = true ∧ isNew nw i = true
  | .own i, .own j => i = rho ρ j ∧ isNew nw j = false
  | .own i, .p fr' d => match s.obj i with
    | some (.row m nn esz n g []) => (fr' = true → m.isZ = false) ∧ keptC H ρ nw i = false ∧ PV.leC (.sl nn esz n g) d
    | _ => d = .any ∧ fr' = false
  | .adr i o, .adr j o' => i = rho ρ j ∧ o = o' ∧ isNew nw j = false
  | .elt i a b c, .elt j a' b' c' => i = rho ρ j ∧ a = a' ∧ b = b' ∧ c = c' ∧ isNew nw j = false
  | .ag cs, .ag ds => AV.leCs s H ρ nw cs ds
  | .tp cs, .tp ds => AV.leCs s H ρ nw cs ds
  | .cl f a b, .cl f' a' b' => f = f' ∧ AV.leCs s H ρ nw a a' ∧ AV.leCs s H ρ nw b b'
  | _, .p fr d => d = .any ∧ fr = false
  | _, _ => False
def AV.leCs (s : St) (H : List (Nat × Ob)) (ρ : List (Nat × Nat)) (nw : List Nat) : List AV → List AV → Prop
  | [], [] => True
  | c :: cs, d :: ds => AV.leC s H ρ nw c d ∧ AV.leCs s H ρ nw cs ds
  | _, _ => False
end
theorem keptC_ok {H : List (Nat × Ob)} {ρ : List (Nat × Nat)} {nw : List Nat} {i : Nat} (h : keptC H ρ nw i = false) : ¬ keptBy (rho ρ) (isNew nw) H i := by
  rintro ⟨x, h1, h2, h3⟩
  have := List.any_eq_false.1 h x h1
  simp [h2, h3] at this
theorem any_ok {s : St} {H : List (Nat × Ob)} {ρ : List (Nat × Nat)} {nw : List Nat} {c : AV} {fr : Bool} {d : PV} (h : d = .any ∧ fr = false) : AvLe s (rho ρ) (isNew nw) (keptBy (rho ρ) (isNew nw) H) c (.p fr d) := by
  obtain ⟨rfl, rfl⟩ := h; exact .any _
mutual
theorem AV.leC_ok {s : St} {H : List (Nat × Ob)} {ρ : List (Nat × Nat)} {nw : List Nat} : ∀ (c d : AV), AV.leC s H ρ nw c d → AvLe s (rho ρ) (isNew nw) (keptBy (rho ρ) (isNew nw) H) c d
  | .p fr c, .p fr' d, h => by
    simp only [AV.leC] at h
    obtain ⟨h1, h2⟩ := h
    cases fr' with
    | false => exact .leo _ _ _ (PV.leC_ok h2)
    | true =>
      rcases h1 rfl with rfl | ⟨h1, h3⟩
      · exact .le _ _ _ (PV.leC_ok h2)
      · cases c <;> simp only [PV.isVal, Bool.false_eq_true] at h1
        cases d <;> simp only [PV.isVal, Bool.false_eq_true] at h3
        simp only [PV.leC] at h2
        subst h2
        exact .sc _ _ _
  | .p fr c, .own i, h => by
    simp only [AV.leC] at h
    cases PV.isNilSl_ok h.1
    exact .nil _ _ h.2
  | .p _ _, .adr _ _, h => by simp [AV.leC] at h
  | .p _ _, .elt _ _ _ _, h => by simp [AV.leC] at h
  | .p _ _, .vw _ _ _, h => by simp [AV.leC] at h
  | .p _ _, .ag _, h => by simp [AV.leC] at h
  | .p _ _, .tp _, h => by simp [AV.leC] at h
  | .p _ _, .cl _ _ _, h => by simp [AV.leC] at h
  | .own i, .own j, h => by
    simp only [AV.leC] at h
    obtain ⟨rfl, h⟩ := h
    exact .own _ h
  | .own i, .p fr' d, h => by
    simp only [AV.leC] at h
    split at h
    · rename_i m nn esz n g ho
      obtain ⟨h1, h2, h3⟩ := h
      cases fr' with
      | false => exact .frz' i m nn esz n g d ho (keptC_ok h2) (PV.leC_ok h3)
      | true =>
        refine .frz i m nn esz n g d ho (keptC_ok h2) (fun e => ?_) (PV.leC_ok h3)
        subst e
        exact absurd (h1 rfl) (by simp [Mode.isZ])
    · exact any_ok h
  | .own _, .adr _ _, h => by simp [AV.leC] at h
  | .own _, .elt _ _ _ _, h => by simp [AV.leC] at h
  | .own _, .vw _ _ _, h => by simp [AV.leC] at h
  | .own _, .ag _, h => by simp [AV.leC] at h
  | .own _, .tp _, h => by simp [AV.leC] at h
  | .own _, .cl _ _ _, h => by simp [AV.leC] at h
  | .adr i o, .adr j o', h => by
    simp only [AV.leC] at h
    obtain ⟨rfl, rfl, h⟩ := h
    exact .adr _ _ h
  | .adr _ _, .p fr d, h => by simp only [AV.leC] at h; exact any_ok h
  | .adr _ _, .own _, h => by simp [AV.leC] at h
  | .adr _ _, .elt _ _ _ _, h => by simp [AV.leC] at h
  | .adr _ _, .vw _ _ _, h => by simp [AV.leC] at h
  | .adr _ _, .ag _, h => by simp [AV.leC] at h
  | .adr _ _, .tp _, h => by simp [AV.leC] at h
  | .adr _ _, .cl _ _ _, h => by simp [AV.leC] at h
  | .elt i a b c, .elt j a' b' c', h => by
    simp only [AV.leC] at h
    obtain ⟨rfl, rfl, rfl, rfl, h⟩ := h
    exact .elt _ _ _ _ h
  | .elt _ _ _ _, .p fr d, h => by simp only [AV.leC] at h; exact any_ok h
  | .elt _ _ _ _, .own _, h => by simp [AV.leC] at h
  | .elt _ _ _ _, .adr _ _, h => by simp [AV.leC] at h
  | .elt _ _ _ _, .ag _, h => by simp [AV.leC] at h
  | .elt _ _ _ _, .tp _, h => by simp [AV.leC] at h
  | .elt _ _ _ _, .cl _ _ _, h => by simp [AV.leC] at h
  | .elt _ _ _ _, .vw _ _ _, h => by simp [AV.leC] at h
  | .vw _ _ _, .p fr d, h => by simp only [AV.leC] at h; exact any_ok h
  | .vw _ _ _, .own _, h => by simp [AV.leC] at h
  | .vw _ _ _, .adr _ _, h => by simp [AV.leC] at h
  | .vw _ _ _, .elt _ _ _ _, h => by simp [AV.leC] at h
  | .vw _ _ _, .vw _ _ _, h => by simp [AV.leC] at h
  | .vw _ _ _, .ag _, h => by simp [AV.leC] at h
  | .vw _ _ _, .tp _, h => by simp [AV.leC] at h
  | .vw _ _ _, .cl _ _ _, h => by simp [AV.leC] at h
  | .ag cs, .ag ds, h => by
    simp only [AV.leC] at h
    exact .ag _ _ (AV.leCs_ok cs ds h).1 (AV.leCs_ok cs ds h).2
  | .ag _, .p fr d, h => by simp only [AV.leC] at h; exact any_ok h
  | .ag _, .own _, h => by simp [AV.leC] at h
  | .ag _, .adr _ _, h => by simp [AV.leC] at h
  | .ag _, .elt _ _ _ _, h => by simp [AV.leC] at h
  | .ag _, .vw _ _ _, h => by simp [AV.leC] at h
  | .ag _, .tp _, h => by simp [AV.leC] at h
  | .ag _, .cl _ _ _, h => by simp [AV.leC] at h
  | .tp cs, .tp ds, h => by
    simp only [AV.leC] at h
    exact .tp _ _ (AV.leCs_ok cs ds h).1 (AV.leCs_ok cs ds h).2
  | .tp _, .p fr d, h => by simp only [AV.leC] at h; exact any_ok h
  | .tp _, .own _, h => by simp [AV.leC] at h
  | .tp _, .adr _ _, h => by simp [AV.leC] at h
  | .tp _, .elt _ _ _ _, h => by simp [AV.leC] at h
  | .tp _, .vw _ _ _, h => by simp [AV.leC] at h
  | .tp _, .ag _, h => by simp [AV.leC] at h
  | .tp _, .cl _ _ _, h => by simp [AV.leC] at h
  | .cl f a b, .cl f' a' b', h => by
    simp only [AV.leC] at h
    obtain ⟨rfl, h1, h2⟩ := h
    exact .cl _ _ _ _ _ (AV.leCs_ok a a' h1).1 (AV.leCs_ok b b' h2).1 (AV.leCs_ok a a' h1).2 (AV.leCs_ok b b' h2).2
  | .cl _ _ _, .p fr d, h => by simp only [AV.leC] at h; exact any_ok h
  | .cl _ _ _, .own _, h => by simp [AV.leC] at h
  | .cl _ _ _, .adr _ _, h => by simp [AV.leC] at h
  | .cl _ _ _, .elt _ _ _ _, h => by simp [AV.leC] at h
  | .cl _ _ _, .vw _ _ _, h => by simp [AV.leC] at h
  | .cl _ _ _, .ag _, h => by simp [AV.leC] at h
  | .cl _ _ _, .tp _, h => by simp [AV.leC] at h
theorem AV.leCs_ok {s : St} {H : List (Nat × Ob)} {ρ : List (Nat × Nat)} {nw : List Nat} : ∀ (cs ds : List AV), AV.leCs s H ρ nw cs ds →
    cs.length = ds.length ∧ ∀ (j : Nat) (c d : AV), cs[j]? = some c → ds[j]? = some d → AvLe s (rho ρ) (isNew nw) (keptBy (rho ρ) (isNew nw) H) c d
  | [], [], h => ⟨rfl, fun j c d h => by simp at h⟩
  | c :: cs, d :: ds, h => by
    simp only [AV.leCs] at h
    have := AV.leCs_ok cs ds h.2
    refine ⟨by simp [this.1], fun j x y hx hy => ?_⟩
    cases j with
    | zero =>
      simp only [List.getElem?_cons_zero, Option.some.injEq] at hx hy
      subst hx
      subst hy
      exact AV.leC_ok c d h.1
    | succ j => exact this.2 j x y (by simpa using hx) (by simpa using hy)
  | [], _ :: _, h => by simp [AV.leCs] at h
  | _ :: _, [], h => by simp [AV.leCs] at h
end
def leEnv (s : St) (H : List (Nat × Ob)) (ρ : List (Nat × Nat)) (nw : List Nat) : List (Nat × AV) → Prop
  | [] => True
  | (t, c) :: r => AV.leC s H ρ nw (s.get t) c ∧ leEnv s H ρ nw r
def renH (ρ : List (Nat × Nat)) (hl : List (Nat × Nat × Nat)) : List (Nat × Nat × Nat) := hl.map fun x => (x.1, x.2.1, rho ρ x.2.2)
def obLe (s : St) (H : List (Nat × Ob)) (ρ : List (Nat × Nat)) (nw : List Nat) (j : Nat) : Ob → Prop
  | .box ds => isNew nw j = false ∧ match s.obj (rho ρ j) with
    | some (.box cs) => AV.leCs s H ρ nw cs ds
    | _ => False
  | .row m' nn' esz' n' g' hl' => match isNew nw j with
    | true => n' = 0 ∧ nn' = false ∧ hl' = []
    | false => match s.obj (rho ρ j) with
      | some (.row m nn esz n g hl) => m.ok m' = true ∧ (nn' = true → nn = true) ∧ esz = esz' ∧ n = n' ∧ hl = renH ρ hl' ∧ (hl'.all fun x => !isNew nw x.2.2) = true ∧ ∀ i j, i < n → j < esz → PV.Le (g i j) (g' i j)
      | _ => False
  | .map f' n' => isNew nw j = false ∧ match s.obj (rho ρ j) with
    | some (.map f n) => n = n' ∧ ∀ k, f k = f' k
    | _ => False
def leObs (s : St) (H : List (Nat × Ob)) (ρ : List (Nat × Nat)) (nw : List Nat) : List (Nat × Ob) → Prop
  | [] => True
  | (j, o) :: r => obLe s H ρ nw j o ∧ leObs s H ρ nw r
def injB (ρ : List (Nat × Nat)) (nw : List Nat) : List (Nat × Ob) → Bool
  | [] => true
  | (j, _) :: r => (isNew nw j || r.all fun x => isNew nw x.1 || x.1 == j || rho ρ x.1 != rho ρ j) && injB ρ nw r
def pinC (ρ : List (Nat × Nat)) (nw : List Nat) : Bool := (ρ.all fun x => Nat.blt x.1 hbs || x.1 == x.2) && nw.all fun i => Nat.blt i hbs
def stLe (s s' : St) (ρ : List (Nat × Nat)) (nw : List Nat) : Prop := leEnv s s'.H ρ nw s'.env ∧ leObs s s'.H ρ nw s'.H ∧ injB ρ nw s'.H = true ∧ pinC ρ nw = true
theorem leEnv_mem {s : St} {H : List (Nat × Ob)} {ρ : List (Nat × Nat)} {nw : List Nat} : ∀ {l : List (Nat × AV)} {t : Nat} {c : AV}, leEnv s H ρ nw l → (t, c) ∈ l → AV.leC s H ρ nw (s.get t) c
  | (u, d) :: r, t, c, h, hm => by
    rcases List.mem_cons.1 hm with e | hm
    · cases e; exact h.1
    · exact leEnv_mem h.2 hm
theorem leObs_mem {s : St} {H : List (Nat × Ob)} {ρ : List (Nat × Nat)} {nw : List Nat} : ∀ {l : List (Nat × Ob)} {t : Nat} {c : Ob}, leObs s H ρ nw l → (t, c) ∈ l → obLe s H ρ nw t c
  | (u, d) :: r, t, c, h, hm => by
    rcases List.mem_cons.1 hm with e | hm
    · cases e; exact h.1
    · exact leObs_mem h.2 hm
theorem injB_ok {ρ : List (Nat × Nat)} {nw : List Nat} : ∀ {l : List (Nat × Ob)} {j j' : Nat} {o o' : Ob}, injB ρ nw l = true → (j, o) ∈ l → (j', o') ∈ l → isNew nw j = false → isNew nw j' = false → rho ρ j = rho ρ j' → j = j'
  | (u, d) :: r, j, j', o, o', h, hm, hm', hn, hn', he => by
    simp only [injB, Bool.and_eq_true, Bool.or_eq_true, List.all_eq_true] at h
    rcases List.mem_cons.1 hm with e | hm1 <;> rcases List.mem_cons.1 hm' with e' | hm1'
    · cases e; cases e'; rfl
    · cases e
      rcases h.1 with h1 | h1
      · rw [hn] at h1; cases h1
      · have := h1 _ hm1'
        simp [hn'] at this
        rcases this with h2 | h2
        · exact h2.symm
        · exact (h2 he.symm).elim
    · cases e'
      rcases h.1 with h1 | h1
      · rw [hn'] at h1; cases h1
      · have := h1 _ hm1
        simp [hn] at this
        rcases this with h2 | h2
        · exact h2
        · exact (h2 he).elim
    · exact injB_ok h.2 hm1 hm1' hn hn' he
theorem obsLe_ok {s : St} {H : List (Nat × Ob)} {ρ : List (Nat × Nat)} {nw : List Nat} (h : leObs s H ρ nw H) (hi : injB ρ nw H = true) : ObsLe s H (rho ρ) (isNew nw) where
  obs := fun j o' ho => by
    have := leObs_mem h (look_mem ho)
    cases o' with
    | box ds =>
      simp only [obLe] at this
      obtain ⟨h1, h2⟩ := this
      split at h2
      · rename_i cs hc
        exact .inl ⟨h1, _, hc, .box _ _ (AV.leCs_ok cs ds h2).1 (AV.leCs_ok cs ds h2).2⟩
      · exact h2.elim
    | row m' nn' esz' n' g' hl' =>
      simp only [obLe] at this
      split at this
      · rename_i hn
        obtain ⟨rfl, rfl, rfl⟩ := this
        exact .inr ⟨hn, _, _, _, rfl⟩
      · rename_i hn
        split at this
        · rename_i m nn esz n g hl ho2
          obtain ⟨h1, h2, rfl, h3, h4, h5, h6⟩ := this
          refine .inl ⟨hn, _, ho2, .row _ _ _ _ _ _ _ _ _ _ _ h1 h2 h3 h4 (fun x hx => ?_) h6⟩
          have := List.all_eq_true.1 h5 x hx
          simpa using this
        · exact this.elim
    | map f' n' =>
      simp only [obLe] at this
      obtain ⟨h1, h2⟩ := this
      split at h2
      · rename_i f n ho2
        exact .inl ⟨h1, _, ho2, .map _ _ _ _ h2.1 h2.2⟩
      · exact h2.elim
  inj := fun j j' h1 h2 h3 h4 h5 => by
    cases hj : look H j with
    | none => rw [hj] at h1; cases h1
    | some o =>
      cases hj' : look H j' with
      | none => rw [hj'] at h2; cases h2
      | some o' => exact injB_ok hi (look_mem hj) (look_mem hj') h3 h4 h5
theorem pinC_ok {ρ : List (Nat × Nat)} {nw : List Nat} (h : pinC ρ nw = true) {j : Nat} (hj : hbs ≤ j) : isNew nw j = false ∧ rho ρ j = j := by
  simp only [pinC, Bool.and_eq_true, List.all_eq_true] at h
  constructor
  · unfold isNew
    cases hc : nw.contains j with
    | false => rfl
    | true =>
      have := h.2 j (by simpa using hc)
      simp [Nat.blt_eq] at this
      omega
  · unfold rho
    cases hl : look ρ j with
    | none => rfl
    | some k =>
      have := h.1 _ (look_mem hl)
      simp only [Bool.or_eq_true, Nat.blt_eq, beq_iff_eq] at this
      rcases this with h1 | h1
      · omega
      · simp [h1]
theorem stLe_ok {s s' : St} {ρ : List (Nat × Nat)} {nw : List Nat} (h : stLe s s' ρ nw) : StLe s s' (rho ρ) (isNew nw) where
  env := fun t => by
    unfold St.get
    cases hl : look s'.env t with
    | none => exact .any _
    | some c => exact AV.leC_ok _ _ (leEnv_mem h.1 (look_mem hl))
  obs := obsLe_ok h.2.1 h.2.2.1
  pin := fun j hj => pinC_ok h.2.2.2 hj
theorem Wk.mk {s s' : St} (lw : List (Nat × Mode)) (ρ : List (Nat × Nat)) (nw : List Nat) (h : stLe (s.lowers lw) s' ρ nw) : Wk s s' := (Wk.lowers lw s).trans (stLe_ok h).wk
theorem Again.mk {σ : Type} {st : σ → St} {inv : σ → Prop} {μ : σ → Nat} {x : σ} {s' : St} (x' : σ) (lw : List (Nat × Mode)) (ρ : List (Nat × Nat)) (nw : List Nat) (h1 : inv x') (h2 : μ x' < μ x) (h3 : stLe (s'.lowers lw) (st x') ρ nw) : Again st inv μ x s' :=
  ⟨x', h1, h2, Wk.mk lw ρ nw h3⟩
def pinR (H0 H' : List (Nat × Ob)) (ρ : List (Nat × Nat)) (nw : List Nat) : Bool := H0.all fun x => !(look H' x.1).isSome || (!isNew nw x.1 && rho ρ x.1 == x.1 + hbs)
def doneC (rl : List RI) (H0 : List (Nat × Ob)) (s : St) (ρ : List (Nat × Nat)) (nw : List Nat) (r : AV) (H' : List (Nat × Ob)) : Prop :=
  match resOf rl s with
  | some c => AV.leC s H' ρ nw c r ∧ leObs s H' ρ nw H' ∧ injB ρ nw H' = true ∧ pinR H0 H' ρ nw = true
  | none => False
theorem ResOk.mk {rl : List RI} {H0 : List (Nat × Ob)} {s : St} {R : AV → List (Nat × Ob) → Prop} (lw : List (Nat × Mode)) (ρ : List (Nat × Nat)) (nw : List Nat) (r : AV) (H' : List (Nat × Ob))
    (h : doneC rl H0 (s.lowers lw) ρ nw r H') (hR : R r H') : ResOk rl H0 s R := by
  unfold doneC at h
  split at h
  · rename_i c hc
    refine ⟨s.lowers lw, c, Wk.lowers lw s, hc, r, H', Wr.of (AV.leC_ok _ _ h.1) (obsLe_ok h.2.1 h.2.2.1) (fun i h1 h2 => ?_), hR⟩
    have h3 := h.2.2.2
    simp only [pinR, List.all_eq_true] at h3
    cases hl : look H0 i with
    | none => rw [hl] at h1; cases h1
    | some o =>
      have := h3 _ (look_mem hl)
      simp only [h2, Bool.not_true, Bool.false_or, Bool.and_eq_true, Bool.not_eq_true', beq_iff_eq] at this
      exact this
  · exact h.elim
section
variable {P : Program} {G : List (Nat × PV)} {rl : List RI} {H0 : List (Nat × Ob)} {R : AV → List (Nat × Ob) → Prop}
theorem M.by {x : Ir} {k : List Item} {s s' : St} (lw : List (Nat × Mode)) (ρ : List (Nat × Nat)) (nw : List Nat) (hs : stLe (s.lowers lw) s' ρ nw) {n : Nat} {or : Or} {vc : VC} (he : Go.Gw.ev G rl H0 n or (.ir x :: k) s' = vc) (h : vc.holds P G rl H0 R) :
    M P G (Post rl H0 R) (.ir x :: k) s := M.wk (Wk.mk lw ρ nw hs) (ev_ok n _ _ _ (he.symm ▸ h))
theorem loop_by {b : Ir} {k : List Item} {s : St} {σ : Type} (st : σ → St) (inv : σ → Prop) (μ : σ → Nat) (x0 : σ) (lw : List (Nat × Mode)) (ρ : List (Nat × Nat)) (nw : List Nat) (h0 : inv x0) (hs : stLe (s.lowers lw) (st x0) ρ nw)
    {n : Nat} {or : (σ → St → Prop) → σ → Or} {vc : (σ → St → Prop) → σ → VC} (he : ∀ (I : σ → St → Prop) x, ev G rl H0 n (or I x) (.ir b :: .lend (I x) :: k) (st x) = vc I x)
    (hr : ∀ x, inv x → (vc (Again st inv μ) x).holds P G rl H0 R) : (VC.loop b k s).holds P G rl H0 R :=
  MLoop.mk st inv μ x0 h0 (Wk.mk lw ρ nw hs) fun x hx => ev_ok n _ _ _ ((he _ x).symm ▸ hr x hx)
theorem PCall.by {f : FuncId} {args : List AV} {H : List (Nat × Ob)} {keep : List Nat} {ir : Ir} {n : Nat} {or : Or} {vc : VC}
    (hc : chk P f args.length keep = some (ir, rl)) (hh : noHoles H = true) (he : Go.Gw.ev G rl H n or [.ir ir] (start args H) = vc) (h : vc.holds P G rl H R) : PCall P G f args H R :=
  PCall.ev hc hh (he.symm ▸ h)
theorem PObj.by {f : FuncId} {args : List AV} {H : List (Nat × Ob)} {r : AV} {H' : List (Nat × Ob)} {keep : List Nat} {ir : Ir} {n : Nat} {or : Or} {vc : VC}
    (hc : chk P f args.length keep = some (ir, rl)) (hh : noHoles H = true) (he : Go.Gw.ev G rl H n or [.ir ir] (start args H) = vc) (h : vc.holds P G rl H (fun x h => x = r ∧ h = H')) : PObj P G f args H r H' :=
  PCall.ev hc hh (he.symm ▸ h)
theorem PRet.by {f : FuncId} {args : List AV} {r : AV} {keep : List Nat} {ir : Ir} {n : Nat} {or : Or} {vc : VC}
    (hc : chk P f args.length keep = some (ir, rl)) (he : Go.Gw.ev G rl [] n or [.ir ir] (start args []) = vc) (h : vc.holds P G rl [] (fun x h => x = r ∧ h = [])) : PRet P G f args r :=
  PCall.ev hc rfl (he.symm ▸ h)
theorem VC.holds_fail : (VC.fail).holds P G rl H0 R = False := rfl
theorem VC.holds_doneP {c : AV} : (VC.doneP c).holds P G rl H0 R = R c [] := rfl
theorem VC.holds_done {s : St} : (VC.done s).holds P G rl H0 R = ResOk rl H0 s R := rfl
theorem VC.holds_need {p : Prop} {v : VC} : (VC.need p v).holds P G rl H0 R = (p ∧ v.holds P G rl H0 R) := rfl
theorem VC.holds_split {b : Bool} {t f : VC} : (VC.split b t f).holds P G rl H0 R = ((b = true → t.holds P G rl H0 R) ∧ (b = false → f.holds P G rl H0 R)) := rfl
theorem VC.holds_either {p : Prop} {t f : VC} : (VC.either p t f).holds P G rl H0 R = ((p → t.holds P G rl H0 R) ∧ f.holds P G rl H0 R) := rfl
theorem VC.holds_call {f : FuncId} {args : List AV} {H : List (Nat × Ob)} {r : AV} {H' : List (Nat × Ob)} {v : VC} : (VC.call f args H r H' v).holds P G rl H0 R = (PObj P G f args H r H' ∧ v.holds P G rl H0 R) := rfl
theorem VC.holds_callE {α : Type} {f : FuncId} {args : List AV} {H : List (Nat × Ob)} {φ : α → Prop} {r : α → AV} {H' : α → List (Nat × Ob)} {v : α → VC} : (VC.callE α f args H φ r H' v).holds P G rl H0 R = (PSome P G f args H α φ r H' ∧ ∀ x, φ x → (v x).holds P G rl H0 R) := rfl
theorem VC.holds_lend {I : St → Prop} {s : St} : (VC.lend I s).holds P G rl H0 R = I s := rfl
theorem VC.holds_stop {k : List Item} {s : St} : (VC.stop k s).holds P G rl H0 R = M P G (Post rl H0 R) k s := rfl
end
end Go.Gw
namespace Go.Gw
open Go
set_option linter.unusedVariables false
set_option linter.unusedSimpArgs false
mutual
def AV.leP : AV → AV → Prop
  | .p fr c, .p fr' d => (fr' = true → fr = true ∨ (c.isVal = true ∧ d.isVal = true)) ∧ PV.leC c d
  | .own i, .own j => i = j
  | .adr i o, .adr j o' => i = j ∧ o = o'
  | .elt i a b c, .elt j a' b' c' => i = j ∧ a = a' ∧ b = b' ∧ c = c'
  | .ag cs, .ag ds => AV.lePs cs ds
  | .tp cs, .tp ds => AV.lePs cs ds
  | .cl f a b, .cl f' a' b' => f = f' ∧ AV.lePs a a' ∧ AV.lePs b b'
  | _, _ => False
def AV.lePs : List AV → List AV → Prop
  | [], [] => True
  | c :: cs, d :: ds => AV.leP c d ∧ AV.lePs cs ds
  | _, _ => False
end
section
variable {F Z : Nat → Prop} {ι : Nat → Value} {w : World}
mutual
theorem AV.leP_ok (hFZ : ∀ b, F b → Z b) : ∀ (c d : AV), AV.leP c d → ∀ x, RepA F Z ι w c x → RepA F Z ι w d x
  | .p fr c, d, h, x, hx => by
    cases d <;> simp only [AV.leP] at h
    case p fr' d =>
      obtain ⟨h1, h2⟩ := h
      rw [rep_p] at hx ⊢
      cases fr' with
      | false =>
        refine RepP.le (PV.leC_ok h2) ?_
        cases fr with
        | false => exact hx
        | true => exact hx.mono fun b hb _ => ⟨rfl, hFZ b hb⟩
      | true =>
        rcases h1 rfl with rfl | ⟨h1, h3⟩
        · exact RepP.le (PV.leC_ok h2) hx
        · cases c <;> simp only [PV.isVal, Bool.false_eq_true] at h1
          cases d <;> simp only [PV.isVal, Bool.false_eq_true] at h3
          simp only [PV.leC] at h2
          subst h2
          cases hx
          exact .v _
  | .own i, d, h, x, hx => by cases d <;> simp only [AV.leP] at h; subst h; exact hx
  | .adr i o, d, h, x, hx => by cases d <;> simp only [AV.leP] at h; obtain ⟨rfl, rfl⟩ := h; exact hx
  | .elt i a b c, d, h, x, hx => by cases d <;> simp only [AV.leP] at h; obtain ⟨rfl, rfl, rfl, rfl⟩ := h; exact hx
  | .vw _ _ _, d, h, x, hx => by cases d <;> simp only [AV.leP] at h
  | .ag cs, d, h, x, hx => by
    cases d <;> simp only [AV.leP] at h
    cases hx with
    | ag _ xs h1 h2 =>
      have := AV.lePs_ok hFZ cs _ h
      refine .ag _ xs (h1.trans this.1) fun j d hj => ?_
      have hlt := (List.getElem?_eq_some_iff.1 hj).1
      rw [← this.1] at hlt
      exact this.2 j _ d (List.getElem?_eq_getElem hlt) hj _ (h2 j _ (List.getElem?_eq_getElem hlt))
  | .tp cs, d, h, x, hx => by
    cases d <;> simp only [AV.leP] at h
    cases hx with
    | tp _ xs h1 h2 =>
      have := AV.lePs_ok hFZ cs _ h
      refine .tp _ xs (h1.trans this.1) fun j d hj => ?_
      have hlt := (List.getElem?_eq_some_iff.1 hj).1
      rw [← this.1] at hlt
      exact this.2 j _ d (List.getElem?_eq_getElem hlt) hj _ (h2 j _ (List.getElem?_eq_getElem hlt))
  | .cl f a b, d, h, x, hx => by
    cases d <;> simp only [AV.leP] at h
    obtain ⟨rfl, h1, h2⟩ := h
    cases hx with
    | cl _ _ _ fs xs h3 h4 h5 h6 =>
      have t1 := AV.lePs_ok hFZ a _ h1
      have t2 := AV.lePs_ok hFZ b _ h2
      refine .cl f _ _ fs xs (h3.trans t1.1) (h4.trans t2.1) (fun j d hj => ?_) (fun j d hj => ?_)
      · have hlt := (List.getElem?_eq_some_iff.1 hj).1
        rw [← t1.1] at hlt
        exact t1.2 j _ d (List.getElem?_eq_getElem hlt) hj _ (h5 j _ (List.getElem?_eq_getElem hlt))
      · have hlt := (List.getElem?_eq_some_iff.1 hj).1
        rw [← t2.1] at hlt
        exact t2.2 j _ d (List.getElem?_eq_getElem hlt) hj _ (h6 j _ (List.getElem?_eq_getElem hlt))
theorem AV.lePs_ok (hFZ : ∀ b, F b → Z b) : ∀ (cs ds : List AV), AV.lePs cs ds → cs.length = ds.length ∧ ∀ (j : Nat) (c d : AV), cs[j]? = some c → ds[j]? = some d → ∀ x, RepA F Z ι w c x → RepA F Z ι w d x
  | [], [], _ => ⟨rfl, fun j c d h => by simp at h⟩
  | c :: cs, d :: ds, h => by
    simp only [AV.lePs] at h
    have := AV.lePs_ok hFZ cs ds h.2
    refine ⟨by simp [this.1], fun j x y hx hy => ?_⟩
    cases j with
    | zero => simp at hx hy; subst hx; subst hy; exact AV.leP_ok hFZ c d h.1
    | succ j => exact this.2 j x y (by simpa using hx) (by simpa using hy)
  | [], _ :: _, h => by simp [AV.lePs] at h
  | _ :: _, [], h => by simp [AV.lePs] at h
end
end
def Ob.leP : Ob → Ob → Prop
  | .box cs, .box ds => AV.lePs cs ds
  | .row m nn esz n g hl, .row m' nn' esz' n' g' hl' => m = m' ∧ (nn' = true → nn = true) ∧ esz = esz' ∧ n = n' ∧ hl = [] ∧ hl' = [] ∧ ∀ i j, i < n → j < esz → PV.Le (g i j) (g' i j)
  | .map f n, .map f' n' => n = n' ∧ ∀ k, f k = f' k
  | _, _ => False
def leHs : List (Nat × Ob) → List (Nat × Ob) → Prop
  | [], [] => True
  | (i, o) :: r, (j, o') :: r' => i = j ∧ Ob.leP o o' ∧ leHs r r'
  | _, _ => False
theorem leHs_look : ∀ {H H' : List (Nat × Ob)}, leHs H H' → ∀ i, (∀ o', look H' i = some o' → ∃ o, look H i = some o ∧ Ob.leP o o') ∧ ((look H i).isSome = (look H' i).isSome)
  | [], [], _, i => ⟨fun o' h => by simp [look] at h, rfl⟩
  | (a, o) :: r, (b, o2) :: r', h, i => by
    simp only [leHs] at h
    obtain ⟨rfl, h1, h2⟩ := h
    have := leHs_look h2 i
    simp only [look]
    split
    · exact ⟨fun o' h => by cases h; exact ⟨o, rfl, h1⟩, rfl⟩
    · exact this
  | [], _ :: _, h, _ => by simp [leHs] at h
  | _ :: _, [], h, _ => by simp [leHs] at h
theorem PCall.args {P : Program} {G : List (Nat × PV)} {f : FuncId} {args args' : List AV} {H H' : List (Nat × Ob)} {R : AV → List (Nat × Ob) → Prop} (h : PCall P G f args' H' R) (ha : AV.lePs args args') (hH : leHs H H') : PCall P G f args H R := by
  refine ⟨h.1, fun w Z0 ι ow vs h1 h2 h3 h4 h5 h6 => ?_⟩
  have hle := AV.lePs_ok (F := fun _ => False) (Z := Z0) (ι := ι) (w := w) (fun b hb => hb.elim) args args' ha
  refine (h.2 w Z0 ι ow vs (h1.trans hle.1) (fun b i hb => ?_) h3 (fun i o' ho' => ?_) (fun j c hj => ?_) h6).mono ?_
  · rw [← (leHs_look hH i).2]; exact h2 b i hb
  · obtain ⟨o, ho, hl⟩ := (leHs_look hH i).1 o' ho'
    have hob := h4 i o ho
    cases o with
    | box cs =>
      cases o' <;> simp only [Ob.leP] at hl
      have t1 := AV.lePs_ok (F := fun _ => False) (Z := Z0) (ι := ι) (w := w) (fun b hb => hb.elim) _ _ hl
      obtain ⟨b, c, t, e1, e2, e3, e4, e5⟩ := hob
      refine ⟨b, c, t, e1, e2, e3, e4.trans t1.1, fun j d hj => ?_⟩
      have hlt := (List.getElem?_eq_some_iff.1 hj).1
      rw [← t1.1] at hlt
      exact t1.2 j _ d (List.getElem?_eq_getElem hlt) hj _ (e5 j _ (List.getElem?_eq_getElem hlt))
    | row m nn esz n g hl0 =>
      cases o' <;> simp only [Ob.leP] at hl
      rename_i m' nn' esz' n' g' hl'
      obtain ⟨rfl, hnn, rfl, rfl, rfl, rfl, hg⟩ := hl
      rcases hob with ⟨e0, ⟨e1, e2⟩ | e1⟩ | ⟨b, cap, c, t, q, e1, e2, e3, e4, e5, eq, e6⟩
      · refine .inl ⟨e0, .inl ⟨?_, e2⟩⟩
        cases nn' with
        | false => rfl
        | true => rw [hnn rfl] at e1; cases e1
      · exact .inl ⟨e0, .inr e1⟩
      · refine .inr ⟨b, cap, c, t, q, e1, e2, e3, e4, e5, eq, fun p r hp hr => ?_⟩
        have e7 := e6 p r hp hr
        cases m <;> simp only [EltOk] at e7 ⊢
        · exact e7.le (hg p r hp hr)
        · exact e7.le (hg p r hp hr)
        · simp only [hole] at e7 ⊢
          exact e7.le (hg p r hp hr)
    | map f n =>
      cases o' <;> simp only [Ob.leP] at hl
      obtain ⟨rfl, hf⟩ := hl
      rename_i f'
      have : f = f' := funext hf
      subst this
      exact hob
  · have hlt := (List.getElem?_eq_some_iff.1 hj).1
    rw [← hle.1] at hlt
    exact hle.2 j _ c (List.getElem?_eq_getElem hlt) hj _ (h5 j _ (List.getElem?_eq_getElem hlt))
  · rintro e w' ⟨x, r, H2, ι', ow', h7, h8, h9, h10, h11, h12, h13⟩
    refine ⟨x, r, H2, ι', ow', h7, h8, fun i hi hi' => h9 i ?_ hi', h10, h11, h12, h13⟩
    rw [← (leHs_look hH i).2]; exact hi
theorem PObj.args {P : Program} {G : List (Nat × PV)} {f : FuncId} {args args' : List AV} {H H' : List (Nat × Ob)} {r : AV} {H2 : List (Nat × Ob)} (h : PObj P G f args' H' r H2) (ha : AV.lePs args args') (hH : leHs H H') : PObj P G f args H r H2 := PCall.args h ha hH
theorem PRet.args {P : Program} {G : List (Nat × PV)} {f : FuncId} {args args' : List AV} {r : AV} (h : PRet P G f args' r) (ha : AV.lePs args args') : PRet P G f args r := PCall.args h ha trivial
def IntCells (esz n : Nat) (g : Nat → Nat → PV) : Prop := ∀ i j, i < n → j < esz → g i j = PI (intOf (g i j))
abbrev SL (nn : Bool) (esz n : Nat) (g : Nat → Nat → PV) : AV := .p false (.sl nn esz n g)
abbrev IL (nn : Bool) (n : Nat) (f : Nat → Int) : AV := .p false (.sl nn 1 n fun i _ => PI (f i))
theorem PV.Le_ints {nn : Bool} {n : Nat} {g : Nat → Nat → PV} (hg : IntCells 1 n g) : PV.leC (.sl nn 1 n g) (.sl nn 1 n fun i _ => PI (intOf (g i 0))) :=
  ⟨fun h => h, rfl, rfl, fun i j hi hj => by
    obtain rfl : j = 0 := by omega
    rw [hg i 0 hi hj]
    exact .refl _⟩
theorem PV.leC_rfl : ∀ (c : PV), PV.leC c c
  | .v _ => rfl
  | .sl _ _ _ _ => ⟨fun h => h, rfl, rfl, fun _ _ _ _ => .refl _⟩
  | .pp _ _ => ⟨rfl, fun _ _ => .refl _⟩
  | .cl _ _ _ => rfl
  | .nm x c => ⟨rfl, PV.leC_rfl c⟩
  | .any => trivial
theorem AV.leP_p (fr : Bool) (c : PV) : AV.leP (.p fr c) (.p fr c) := ⟨fun h => .inl h, PV.leC_rfl c⟩
theorem AV.leP_ints {nn : Bool} {n : Nat} {g : Nat → Nat → PV} (hg : IntCells 1 n g) : AV.leP (SL nn 1 n g) (IL nn n fun i => intOf (g i 0)) := ⟨fun h => (by cases h), PV.Le_ints hg⟩
end Go.Gw
namespace Go.Gw
open Go Go.ChangeShapes Go.WideShapes Go.RowKit
set_option linter.unusedVariables false
theorem below_kept {w w' : World} (h : Below w.heap.size w w') (may : MemPlace → Prop) : w.keptBut w' may := by
  refine ⟨h.os, h.output, fun i hi => ?_⟩
  rw [h.block i hi]
  cases w.heap[i]? with
  | none => trivial
  | some o => cases o <;> simp
theorem below_frozen {w w' : World} (h : Below w.heap.size w w') (a : Addr) (ha : a.block < w.heap.size) : w'.frozen? a = w.frozen? a := by
  simp only [World.frozen?, h.block _ ha]
theorem post_of_old {H : Type} {enc : TypeId × Value → H} {P : Program} {f : Func} {s : ChangeSpec} {apart fresh handsOn again : Bool} {W W' : World} {args : Array Value} {v : Value} {ds gs : List (DataW H)} {before pa pv : List MemPlace}
    (hW : DataW.Whole enc P f.params.toList s.vars apart W args.toList ds gs before)
    (hres : ∀ (b : Nat) (sp : Nat → Bool) (hd : Bool), DataW.TrodAll enc P W' b sp hd f.resultTypes.toList (v.resultList f.resultTypes.size) (s.fn H (ds ++ gs)).results [])
    (hargs : ∀ sp : Nat → Bool, (∀ p ∈ before, sp p.block = true) → DataW.TrodAll enc P W' 0 sp true f.params.toList args.toList (s.fn H (ds ++ gs)).args pa)
    (hvars : ∀ sp : Nat → Bool, (∀ p ∈ before, sp p.block = true) → DataW.TrodVars enc P W' sp s.vars (s.fn H (ds ++ gs)).vars pv)
    (hps : before = pa ++ pv) (hb : Below W.heap.size W W')
    (hok : ∀ (j : Nat) (t : TypeId) (r : Value), f.resultTypes[j]? = some t → (v.resultList f.resultTypes.size)[j]? = some r → Value.okWide P W' .any 0 t r) :
    s.post enc P f apart fresh handsOn again W args v W' := by
  have hlt := fun p hp => hW.lt p hp
  have hold : ∀ p ∈ before, (fun b => decide (b < W.heap.size)) p.block = true := fun p hp => decide_eq_true (hlt p hp)
  have hfz := fun b off hp => below_frozen hb ⟨b, off, none⟩ (hlt (.cell b off) hp)
  refine ⟨ds, gs, before, [], pa, pv, hW, hres _ _ _, hargs _ hold, hvars _ hold, below_kept hb _, fun _ => ?_⟩
  obtain ⟨_, _, _, _, _, hz, hn⟩ := hW
  subst hps
  have hres2 := trodAll_append (hargs (fun _ => true) (fun _ _ => rfl)) (hres 0 (fun _ => true) true)
  refine ⟨hok, _, _, ([] ++ pa) ++ pv, ⟨[] ++ pa, pv, trodAll_append (hargs _ (fun _ _ => rfl)) (hres _ _ _), hvars _ (fun _ _ => rfl), rfl, fun b off hp => ?_, fun ha => ?_⟩, fun p hp _ => hp⟩
  · have hp : MemPlace.cell b off ∈ pa ++ pv := hp
    rw [hfz b off hp]
    exact hz b off hp
  · exact hn ha
end Go.Gw
namespace Go.Gw
open Go Go.ChangeShapes Go.RowKit
set_option linter.unusedVariables false
set_option linter.unusedSimpArgs false
inductive Leaf where
  | int (k : IntKind)
  | bool
  | str
  | sl (e : List Leaf)
def offOk (P : Program) : Nat → List Field → List (List Leaf) → Bool
  | off, [], [] => true
  | off, f :: fs, l :: ls => (f.offset == off && P.cellsOf f.type == l.length) && offOk P (off + l.length) fs ls
  | _, _, _ => false
def leaves (P : Program) : Nat → TypeId → Option (List Leaf)
  | 0, _ => none
  | n + 1, t => match P.underlying t with
    | some (.int k) => some [.int k]
    | some .bool => some [.bool]
    | some .string => some [.str]
    | some (.slice e) => match leaves P n e with
      | some l => match P.cellsOf e == l.length && Nat.blt 0 l.length with
        | true => some [.sl l]
        | false => none
      | none => none
    | some (.struct fs) => match mapO (fun f => leaves P n f.type) fs.toList with
      | some ls => match offOk P 0 fs.toList ls && P.cellsOf t == ls.flatten.length with
        | true => some ls.flatten
        | false => none
      | none => none
    | _ => none
inductive Fit : Leaf → PV → Prop
  | int (k n) (h : (Lit.int k n).wf = true) : Fit (.int k) (.v (.int k n))
  | bool (b) : Fit .bool (.v (.bool b))
  | str (s) (h : s.size ≤ maxLen) : Fit .str (.v (.string s))
  | sl (e nn n g) (hn : n ≤ maxLen) (h : ∀ (i j : Nat) (l : Leaf), i < n → e[j]? = some l → Fit l (g i j)) : Fit (.sl e) (.sl nn e.length n g)
section
variable {H : Type} {enc : TypeId × Value → H} {P : Program} {w : World} {base : Nat} {spare : Nat → Bool} {held : Bool}
def Good (w : World) (cs : List Value) (ls : List Leaf) : Prop := cs.length = ls.length ∧ ∀ (j : Nat) (lf : Leaf), ls[j]? = some lf → ∃ c, Fit lf c ∧ RepP (fun _ => True) w c (cs.getD j undef)
theorem mapO_get {α β : Type} {f : α → Option β} : ∀ {l : List α} {r : List β}, mapO f l = some r → l.length = r.length ∧ ∀ (i : Nat) (a : α), l[i]? = some a → f a = r[i]?
  | [], r, h => by simp [mapO] at h; subst h; exact ⟨rfl, fun i a h => by simp at h⟩
  | x :: l, r, h => by
    simp only [mapO] at h
    split at h
    · rename_i a b ha hb
      cases h
      obtain ⟨h1, h2⟩ := mapO_get hb
      refine ⟨by simp [h1], fun i y hy => ?_⟩
      cases i with
      | zero => simp at hy; subst hy; simpa using ha
      | succ i => simpa using h2 i y (by simpa using hy)
    · cases h
theorem good_flat {cs : List Value} : ∀ {fs : List Field} {ls : List (List Leaf)} {off : Nat}, offOk P off fs ls = true → (∀ (i : Nat) (f : Field) (l : List Leaf), fs[i]? = some f → ls[i]? = some l → Good w ((cs.drop f.offset).take (P.cellsOf f.type)) l) →
    ∀ (j : Nat) (lf : Leaf), ls.flatten[j]? = some lf → ∃ c, Fit lf c ∧ RepP (fun _ => True) w c (cs.getD (off + j) undef)
  | [], [], off, _, _, j, lf, h => by simp at h
  | f :: fs, l :: ls, off, ho, hg, j, lf, h => by
    simp only [offOk, Bool.and_eq_true, beq_iff_eq] at ho
    obtain ⟨⟨h1, h2⟩, h3⟩ := ho
    rw [List.flatten_cons, List.getElem?_append] at h
    split at h
    · rename_i hj
      obtain ⟨g1, g2⟩ := hg 0 f l rfl rfl
      obtain ⟨c, h4, h5⟩ := g2 j lf h
      refine ⟨c, h4, ?_⟩
      have : (cs.drop f.offset |>.take (P.cellsOf f.type)).getD j undef = cs.getD (off + j) undef := by
        simp only [List.getD_eq_getElem?_getD, List.getElem?_take, List.getElem?_drop, h1, h2, if_pos hj]
      rwa [this] at h5
    · rename_i hj
      have := good_flat (off := off + l.length) h3 (fun i f' l' hf hl => hg (i + 1) f' l' (by simpa using hf) (by simpa using hl)) (j - l.length) lf h
      rwa [show off + l.length + (j - l.length) = off + j by omega] at this
  | [], _ :: _, _, h, _, _, _, _ => by simp [offOk] at h
  | _ :: _, [], _, h, _, _, _, _ => by simp [offOk] at h
theorem mapM_range {α : Type} {f : Nat → Option α} : ∀ {n k : Nat} {l : List α}, (List.range' k n).mapM f = some l → l.length = n ∧ ∀ (j : Nat), j < n → f (k + j) = l[j]?
  | 0, k, l, h => by simp at h; subst h; exact ⟨rfl, fun j h => by omega⟩
  | n + 1, k, l, h => by
    simp only [List.range'_succ, List.mapM_cons, Option.bind_eq_bind, Option.bind_eq_some_iff, Option.pure_def, Option.some.injEq] at h
    obtain ⟨a, ha, r, hr, rfl⟩ := h
    obtain ⟨h1, h2⟩ := mapM_range hr
    refine ⟨by simp [h1], fun j hj => ?_⟩
    cases j with
    | zero => simpa using ha
    | succ j =>
      have := h2 j (by omega)
      rw [show k + 1 + j = k + (j + 1) by omega] at this
      simpa using this
theorem cells_spec {a : Addr} {n : Nat} {cs : List Value} (h : w.cells? base a n = some cs) : cs.length = n ∧ ∀ (j : Nat), j < n → w.cell? (a.add j) = cs[j]? := by
  unfold World.cells? at h
  split at h
  · rw [List.range_eq_range'] at h
    obtain ⟨h1, h2⟩ := mapM_range h
    exact ⟨h1, fun j hj => by simpa using h2 j hj⟩
  · cases h
open Classical in
theorem open_trod : ∀ (m : Nat) (t : TypeId) (ls : List Leaf) (n : Nat) (cs : List Value) (x : DataW H × List MemPlace), leaves P m t = some ls → DataW.trod enc P w base spare held n t cs = some x → Good w cs ls
  | 0, t, ls, n, cs, x, h, _ => by simp [leaves] at h
  | m + 1, t, ls, n, cs, x, hl, h => by
    simp only [leaves] at hl
    split at hl
    · rename_i k ht
      cases hl
      obtain ⟨z, rfl, _, hw⟩ := DataW.trod_int ht h
      exact ⟨rfl, fun j lf hj => by
        cases j with
        | zero => simp at hj; subst hj; exact ⟨_, .int _ _ hw, .v _⟩
        | succ j => simp at hj⟩
    · rename_i ht
      cases hl
      obtain ⟨z, rfl, _⟩ := DataW.trod_bool ht h
      exact ⟨rfl, fun j lf hj => by
        cases j with
        | zero => simp at hj; subst hj; exact ⟨_, .bool _, .v _⟩
        | succ j => simp at hj⟩
    · rename_i ht
      cases hl
      obtain ⟨z, rfl, _, hw⟩ := DataW.trod_string ht h
      exact ⟨rfl, fun j lf hj => by
        cases j with
        | zero => simp at hj; subst hj; exact ⟨_, .str _ hw, .v _⟩
        | succ j => simp at hj⟩
    · rename_i e ht
      split at hl
      · rename_i l hle
        split at hl
        · rename_i hsz
          simp only [Bool.and_eq_true, beq_iff_eq, Nat.blt_eq] at hsz
          cases hl
          suffices ∃ c, Fit (.sl l) c ∧ cs.length = 1 ∧ RepP (fun _ => True) w c (cs.getD 0 undef) by
            obtain ⟨c, h1, h2, h3⟩ := this
            exact ⟨h2, fun j lf hj => by
              cases j with
              | zero => simp at hj; subst hj; exact ⟨c, h1, h3⟩
              | succ j => simp at hj⟩
          rcases DataW.trod_slice ht h with ⟨rfl, _⟩ | ⟨a, len, cap, elems, rest, n', rfl, rfl, _, _, hlc, hcm, hel, hcell, _⟩
          · exact ⟨.sl false l.length 0 (fun _ _ => .any), .sl _ _ _ _ (Nat.zero_le _) (fun i j lf hi => by omega), rfl, .nil _ _⟩
          · by_cases h0 : len = 0
            · subst h0
              exact ⟨.sl true l.length 0 (fun _ _ => .any), .sl _ _ _ _ (Nat.zero_le _) (fun i j lf hi => by omega), rfl, .emp _ _ _ _ _⟩
            · have key : ∀ i, i < len → ∃ cs', w.cells? base (a.add (i * l.length)) l.length = some cs' ∧ Good w cs' l := fun i hi => by
                have h1 := hcell i hi
                rw [List.getElem?_eq_getElem (by omega), Option.bind_eq_some_iff] at h1
                obtain ⟨cs', h2, h3⟩ := h1
                rw [hsz.1] at h2
                exact ⟨cs', h2, open_trod m e l n' cs' _ hle h3⟩
              have hspot : a.spot = none := by
                obtain ⟨cs', h2, h3⟩ := key 0 (by omega)
                have := (cells_spec h2).2 0 hsz.2
                rw [List.getElem?_eq_getElem (by rw [h3.1]; exact hsz.2)] at this
                have := World.cell?_spot this
                simpa [Addr.add] using this
              obtain ⟨b, off, sp⟩ := a
              simp only at hspot
              subst hspot
              have hel2 : ∀ i j, i < len → j < l.length → ∃ c v, w.cell? ⟨b, off + i * l.length + j, none⟩ = some v ∧ RepP (fun _ => True) w c v ∧ ∀ lf, l[j]? = some lf → Fit lf c := fun i j hi hj => by
                obtain ⟨cs', h2, h3, h4⟩ := key i hi
                have h5 := (cells_spec h2).2 j hj
                rw [addr_add, addr_add, List.getElem?_eq_getElem (by omega)] at h5
                obtain ⟨c, h6, h7⟩ := h4 j _ (List.getElem?_eq_getElem hj)
                rw [List.getD_eq_getElem?_getD, List.getElem?_eq_getElem (by omega), Option.getD_some] at h7
                exact ⟨c, _, h5, h7, fun lf hlf => by rw [List.getElem?_eq_getElem hj] at hlf; cases hlf; exact h6⟩
              let g : Nat → Nat → PV := fun i j => if hh : i < len ∧ j < l.length then (hel2 i j hh.1 hh.2).choose else .any
              let v : Nat → Nat → Value := fun i j => if hh : i < len ∧ j < l.length then (hel2 i j hh.1 hh.2).choose_spec.choose else undef
              have hgv : ∀ i j, i < len → j < l.length → w.cell? ⟨b, off + i * l.length + j, none⟩ = some (v i j) ∧ RepP (fun _ => True) w (g i j) (v i j) ∧ ∀ lf, l[j]? = some lf → Fit lf (g i j) := fun i j hi hj => by
                simp only [g, v, dif_pos (And.intro hi hj)]
                exact (hel2 i j hi hj).choose_spec.choose_spec
              refine ⟨.sl true l.length len g, .sl _ _ _ _ (Nat.le_trans hlc hcm) (fun i j lf hi hj => ?_), rfl, .sl _ _ _ _ b off cap v (fun i j hi hj => (hgv i j hi hj).1) (fun i j hi hj => (hgv i j hi hj).2.1) (fun _ _ _ _ => trivial) hlc⟩
              exact (hgv i j hi (List.getElem?_eq_some_iff.1 hj).1).2.2 lf hj
        · cases hl
      · cases hl
    · rename_i fs ht
      split at hl
      · rename_i lss hls
        split at hl
        · rename_i hok
          simp only [Bool.and_eq_true, beq_iff_eq] at hok
          cases hl
          obtain ⟨xs, n', rfl, _, hlen, hxl, hf⟩ := DataW.trod_struct ht h
          obtain ⟨h1, h2⟩ := mapO_get hls
          refine ⟨hlen.trans hok.2, fun j lf hj => ?_⟩
          have := good_flat (w := w) (cs := cs) hok.1 (fun i f l hfi hli => by
            have h3 := h2 i f hfi
            rw [hli] at h3
            have hfi' : fs[i]? = some f := by simpa using hfi
            have h4 := hf i f hfi'
            have hlt : i < xs.length := by rw [hxl]; exact (Array.getElem?_eq_some_iff.1 hfi').1
            rw [List.getElem?_eq_getElem hlt] at h4
            exact open_trod m f.type l n' _ _ h3 h4) j lf hj
          simpa using this
        · cases hl
      · cases hl
    · cases hl
end
end Go.Gw
namespace Go.Gw
open Go Go.ChangeShapes Go.WideShapes Go.RowKit
set_option linter.unusedVariables false
set_option linter.unusedSimpArgs false
def argOf (P : Program) (t : TypeId) (l : List PV) : AV := match P.underlying t with
  | some (.struct _) => .ag (l.map (.p false))
  | _ => .p false (l.getD 0 .any)
inductive Args (P : Program) : List TypeId → List AV → Prop
  | nil : Args P [] []
  | cons (t : TypeId) (ts : List TypeId) (ls : List Leaf) (l : List PV) (cs : List AV) (hl : leaves P 12 t = some ls) (hlen : l.length = ls.length)
      (hfit : ∀ (j : Nat) (lf : Leaf), ls[j]? = some lf → Fit lf (l.getD j .any)) (h : Args P ts cs) : Args P (t :: ts) (argOf P t l :: cs)
section
variable {H : Type} {enc : TypeId × Value → H} {P : Program} {w : World}
theorem okWide_struct {t : TypeId} {fs : Array Field} {v : Value} {base : Nat} (ht : P.underlying t = some (.struct fs)) (h : Value.okWide P w .any base t v) : ∃ cs, v = .agg cs := by
  unfold Value.okWide at h
  simp only [ht] at h
  obtain ⟨cs, rfl, _⟩ := h
  exact ⟨cs, rfl⟩
theorem okWide_cell {t : TypeId} {ls : List Leaf} {m : Nat} {v : Value} {base : Nat} (hl : leaves P m t = some ls) (hns : ∀ fs, P.underlying t ≠ some (.struct fs)) (h : Value.okWide P w .any base t v) : v.cells = #[v] := by
  have key : Cell.okWide P w .any base t v := by
    unfold Value.okWide at h
    split at h
    · rename_i fs ht; exact (hns fs ht).elim
    · rename_i n e ht
      cases m with
      | zero => simp [leaves] at hl
      | succ m => simp [leaves, ht] at hl
    · exact h
  cases v <;> first
    | rfl
    | (exfalso
       unfold Cell.okWide at key
       split at key <;> first
         | (rename_i e; cases e; done)
         | skip
       unfold Cell.ok at key
       split at key <;> simp_all)
theorem open_arg {t : TypeId} {ls : List Leaf} {v : Value} {base : Nat} {d : DataW H} {ps : List MemPlace} (hl : leaves P 12 t = some ls) (hok : Value.okWide P w .any base t v) (h : DataW.Trod enc P w 0 (fun _ => true) true t v d ps) :
    ∃ l : List PV, l.length = ls.length ∧ (∀ (j : Nat) (lf : Leaf), ls[j]? = some lf → Fit lf (l.getD j .any)) ∧ RepA (fun _ => False) (fun _ => True) (fun _ => undef) w (argOf P t l) v := by
  obtain ⟨n, h⟩ := h
  obtain ⟨h1, h2⟩ := open_trod 12 t ls n _ _ hl h
  have key : ∀ (ls : List Leaf) (cs : List Value), (∀ (j : Nat) (lf : Leaf), ls[j]? = some lf → ∃ c, Fit lf c ∧ RepP (fun _ => True) w c (cs.getD j undef)) →
      ∃ l : List PV, l.length = ls.length ∧ (∀ (j : Nat) (lf : Leaf), ls[j]? = some lf → Fit lf (l.getD j .any)) ∧ ∀ (j : Nat) (c : PV), l[j]? = some c → RepP (fun _ => True) w c (cs.getD j undef) := by
    intro ls
    induction ls with
    | nil => intro cs _; exact ⟨[], rfl, fun j lf h => by simp at h, fun j c h => by simp at h⟩
    | cons lf ls ih =>
      intro cs h
      obtain ⟨c, hc1, hc2⟩ := h 0 lf rfl
      obtain ⟨l, i1, i2, i3⟩ := ih (cs.drop 1) (fun j lf' hj => by
        obtain ⟨c', a1, a2⟩ := h (j + 1) lf' (by simpa using hj)
        refine ⟨c', a1, ?_⟩
        have : (cs.drop 1).getD j undef = cs.getD (j + 1) undef := by simp [List.getD_eq_getElem?_getD, Nat.add_comm]
        rwa [this])
      refine ⟨c :: l, by simp [i1], fun j lf' hj => ?_, fun j c' hj => ?_⟩
      · cases j with
        | zero => simp at hj; subst hj; simpa using hc1
        | succ j => simpa using i2 j lf' (by simpa using hj)
      · cases j with
        | zero => simp at hj; subst hj; exact hc2
        | succ j =>
          have := i3 j c' (by simpa using hj)
          have e : (cs.drop 1).getD j undef = cs.getD (j + 1) undef := by simp [List.getD_eq_getElem?_getD, Nat.add_comm]
          rwa [e] at this
  obtain ⟨l, k1, k2, k3⟩ := key ls v.cells.toList h2
  refine ⟨l, k1, k2, ?_⟩
  unfold argOf
  split
  · rename_i fs ht
    obtain ⟨cs, rfl⟩ := okWide_struct ht hok
    refine .ag _ cs ?_ fun j c hj => ?_
    · simp only [Value.cells] at h1
      simp [k1, ← h1]
    · simp only [List.getElem?_map, Option.map_eq_some_iff] at hj
      obtain ⟨c', hj, rfl⟩ := hj
      have := k3 j c' hj
      simp only [Value.cells] at this
      have e : cs.toList.getD j undef = cs.getD j undef := by simp [List.getD_eq_getElem?_getD, Array.getD_eq_getD_getElem?]
      rw [e] at this
      exact .pf _ _ this
  · rename_i hns
    have hv := okWide_cell hl (fun fs e => hns fs e) hok
    rw [hv] at k3 h1
    have hl1 : l.length = 1 := by rw [k1, ← h1]; rfl
    have := k3 0 (l.getD 0 .any) (by rw [List.getD_eq_getElem?_getD, List.getElem?_eq_getElem (by omega)]; rfl)
    exact .pf _ _ this
theorem open_args : ∀ {ts : List TypeId} {vs : List Value} {ds : List (DataW H)} {ps : List MemPlace} {base : Nat}, DataW.TrodAll enc P w 0 (fun _ => true) true ts vs ds ps → (∀ t, t ∈ ts → ∃ ls, leaves P 12 t = some ls) →
    (∀ (j : Nat) (t : TypeId) (v : Value), ts[j]? = some t → vs[j]? = some v → Value.okWide P w .any base t v) →
    ∃ xs : List AV, Args P ts xs ∧ vs.length = xs.length ∧ ∀ (j : Nat) (c : AV), xs[j]? = some c → RepA (fun _ => False) (fun _ => True) (fun _ => undef) w c (vs.getD j undef)
  | [], vs, ds, ps, base, h, _, _ => by
    obtain ⟨rfl, _⟩ := trodAll_nil h
    exact ⟨[], .nil, rfl, fun j c h => by simp at h⟩
  | t :: ts, vs, ds, ps, base, h, hl, hok => by
    obtain ⟨v, vs', d, ds', p, q, rfl, rfl, rfl, h1, h2⟩ := trodAll_cons h
    obtain ⟨ls, hls⟩ := hl t List.mem_cons_self
    obtain ⟨l, k1, k2, k3⟩ := open_arg hls (hok 0 t v rfl rfl) h1
    obtain ⟨ys, a1, a2, a3⟩ := open_args h2 (fun t' ht => hl t' (List.mem_cons_of_mem _ ht)) (fun j t' v' hj hv => hok (j + 1) t' v' (by simpa using hj) (by simpa using hv))
    refine ⟨_, .cons t ts ls l ys hls k1 k2 a1, by simp [a2], fun j c hj => ?_⟩
    cases j with
    | zero => simp at hj; subst hj; simpa using k3
    | succ j => simpa using a3 j c (by simpa using hj)
theorem trodAll_stays (hl : laidOutB P = true) {W W' : World} {sp : Nat → Bool} (hb : Below W.heap.size W W') : ∀ {ts : List TypeId} {vs : List Value} {ds : List (DataW H)} {ps : List MemPlace}, DataW.TrodAll enc P W 0 (fun _ => true) true ts vs ds ps →
    (∀ t, t ∈ ts → P.readableRec t = true ∧ t < P.types.size) → (∀ x ∈ ps, x.block < W.heap.size) → (∀ x ∈ ps, sp x.block = true) → DataW.TrodAll enc P W' 0 sp true ts vs ds ps
  | [], vs, ds, ps, h, _, _, _ => by
    obtain ⟨rfl, rfl, rfl⟩ := trodAll_nil h
    exact trodAll_mk0
  | t :: ts, vs, ds, ps, h, hr, hlt, hsp => by
    obtain ⟨v, vs', d, ds', p, q, rfl, rfl, rfl, h1, h2⟩ := trodAll_cons h
    obtain ⟨r1, r2⟩ := hr t List.mem_cons_self
    exact trodAll_cons_mk (WideElems.Trod_stays hl r1 r2 h1 (fun x hx => hb.same (hlt x (List.mem_append_left _ hx))) (fun x hx => hsp x (List.mem_append_left _ hx)))
      (trodAll_stays hl hb h2 (fun t' ht => hr t' (List.mem_cons_of_mem _ ht)) (fun x hx => hlt x (List.mem_append_right _ hx)) (fun x hx => hsp x (List.mem_append_right _ hx)))
theorem trodAll_len : ∀ {ts : List TypeId} {vs : List Value} {ds : List (DataW H)} {ps : List MemPlace}, DataW.TrodAll enc P w 0 (fun _ => true) true ts vs ds ps → ds.length = ts.length
  | [], vs, ds, ps, h => by
    obtain ⟨rfl, rfl, rfl⟩ := trodAll_nil h
    rfl
  | t :: ts, vs, ds, ps, h => by
    obtain ⟨v, vs', d, ds', p, q, rfl, rfl, rfl, h1, h2⟩ := trodAll_cons h
    simp [trodAll_len h2]
theorem fit_int {k : IntKind} {c : PV} (h : Fit (.int k) c) : ∃ n, c = .v (.int k n) ∧ (Lit.int k n).wf = true := by cases h with | int _ n h => exact ⟨n, rfl, h⟩
theorem fit_sl {e : List Leaf} {c : PV} (h : Fit (.sl e) c) : ∃ nn n g, c = .sl nn e.length n g ∧ n ≤ maxLen ∧ ∀ (i j : Nat) (l : Leaf), i < n → e[j]? = some l → Fit l (g i j) := by
  cases h with | sl _ nn n g hn h => exact ⟨nn, n, g, rfl, hn, h⟩
end
end Go.Gw
namespace Go.Gw
open Go Go.ChangeShapes Go.WideShapes Go.RowKit
set_option linter.unusedVariables false
set_option linter.unusedSimpArgs false
section
variable {H : Type} {enc : TypeId × Value → H} {P : Program} {w : World}
theorem trodVars_stays (hl : laidOutB P = true) {W W' : World} {sp : Nat → Bool} (hb : Below W.heap.size W W') :
    ∀ {ns : List String} {gs : List (DataW H)} {ps : List MemPlace}, (∀ n, n ∈ ns → ∀ g gl, P.globalNamed n = some g → P.globals[g]? = some gl → P.readableRec gl.type = true ∧ gl.type < P.types.size) → DataW.TrodVars enc P W (fun _ => true) ns gs ps → (∀ x ∈ ps, sp x.block = true) → DataW.TrodVars enc P W' sp ns gs ps
  | [], [], _, _, h, _ => h
  | [], _ :: _, _, _, h, _ => h.elim
  | _ :: _, [], _, _, h, _ => h.elim
  | n :: ns, d :: ds, ps, hv, h, hsp => by
    have hlt := h.lt
    obtain ⟨g, t, cs, fuel, p, q, h1, h2, h3, h4, hs, e⟩ := h
    have ht : P.readableRec t = true ∧ t < P.types.size := by
      cases hg : P.globals[g]? with
      | none => rw [hg] at h2; cases h2
      | some gl =>
        rw [hg] at h2
        obtain rfl : gl.type = t := Option.some.inj h2
        exact hv n List.mem_cons_self g gl h1 hg
    have hp : ∀ x ∈ p, x.block < W.heap.size := fun x hx => hlt x (by rw [e]; simp [hx])
    have h3' : W'.var? P n = some cs := by
      unfold World.var? at h3 ⊢
      rw [h1] at h3 ⊢
      simp only [Option.bind_some] at h3 ⊢
      have hg : g < W.heap.size := by
        cases hh : W.heap[g]? with
        | none => rw [hh] at h3; cases h3
        | some o => exact (Array.getElem?_eq_some_iff.1 hh).1
      rw [hb.block g hg]; exact h3
    obtain ⟨f2, h5⟩ := WideElems.Trod_stays hl ht.1 ht.2 (v := .agg cs) ⟨fuel, h4⟩ (fun x hx => hb.same (hp x hx)) (fun x hx => hsp x (by rw [e]; simp [hx]))
    exact ⟨g, t, cs, f2, p, q, h1, h2, h3', h5,
      trodVars_stays hl hb (fun m hm => hv m (List.mem_cons_of_mem _ hm)) hs (fun x hx => hsp x (by rw [e]; simp [hx])), e⟩
theorem trodVars_len {sp : Nat → Bool} : ∀ {ns : List String} {gs : List (DataW H)} {ps : List MemPlace}, DataW.TrodVars enc P w sp ns gs ps → gs.length = ns.length
  | [], [], _, _ => rfl
  | [], _ :: _, _, h => h.elim
  | _ :: _, [], _, h => h.elim
  | n :: ns, d :: ds, ps, h => by
    obtain ⟨g, t, cs, fuel, p, q, h1, h2, h3, h4, hs, e⟩ := h
    simp [trodVars_len hs]
theorem law_step_laid {f : FuncId} {fn : Func} {s : ChangeSpec} {apart fresh handsOn again : Bool} {tb : TypeId} {G : List (Nat × PV)} (hlaid : laidOutB P = true) (hread : ∀ t, t ∈ fn.params.toList → P.readableRec t = true ∧ t < P.types.size)
    (hleaf : ∀ t, t ∈ fn.params.toList → ∃ ls, leaves P 12 t = some ls) (hvars : ∀ n, n ∈ s.vars → ∀ g gl, P.globalNamed n = some g → P.globals[g]? = some gl → P.readableRec gl.type = true ∧ gl.type < P.types.size) (hres : fn.resultTypes = #[tb]) (htb : P.underlying tb = some .bool)
    (hs : ∀ ds gs : List (DataW H), ds.length = fn.params.size → gs.length = s.vars.length → s.fn H (ds ++ gs) = { results := [.lit (.bool true)], args := ds, vars := gs })
    (hlaw : ∀ xs, Args P fn.params.toList xs → PRet P G f xs (AB true))
    (W : World) (base : Nat) (args : Array Value) (ds gs : List (DataW H)) (before : List MemPlace)
    (hval : ∀ (j : Nat) t v, fn.params[j]? = some t → args[j]? = some v → Value.okWide P W .any base t v)
    (hW : DataW.Whole enc P fn.params.toList s.vars apart W args.toList ds gs before)
    (hG : ∀ g c, look G g = some c → RepP (fun _ => True) W c (.pointer (some ⟨g, 0, none⟩))) :
    Calls P f args W fun e W' => ∃ v, e = .returned v ∧ s.post enc P fn apart fresh handsOn again W args v W' := by
  have hW' := hW
  obtain ⟨p, q, hA, hV, rfl, hfz, hnd⟩ := hW
  obtain ⟨ys, h1, h2, h3⟩ := open_args hA hleaf (fun j t v hj hv => hval j t v (by simpa using hj) (by simpa using hv))
  have hcall := (hlaw ys h1).calls (w := W) (vs := args) (by simpa using h2) (fun j c hj => by
    have := h3 j c hj
    rwa [show args.toList.getD j undef = args.getD j undef by simp [List.getD_eq_getElem?_getD, Array.getD_eq_getD_getElem?]] at this) hG
  refine hcall.mono fun e W' ⟨he, hb⟩ => ⟨.bool true, he, ?_⟩
  have hlen := trodAll_len hA
  have hfn := hs ds gs (by simpa using hlen) (trodVars_len hV)
  have hlt : ∀ x ∈ p ++ q, x.block < W.heap.size := fun x hx => hW'.lt x hx
  refine post_of_old (pa := p) (pv := q) hW' (fun b sp hd => ?_) (fun sp hsp => ?_) (fun sp hsp => ?_) rfl hb ?_
  · rw [hfn, hres]
    exact trodAll_cons_mk (shut_bool htb _) trodAll_mk0
  · rw [hfn]
    exact trodAll_stays hlaid hb hA hread (fun x hx => hlt x (List.mem_append_left _ hx)) (fun x hx => hsp x (List.mem_append_left _ hx))
  · rw [hfn]
    exact trodVars_stays hlaid hb hvars hV (fun x hx => hsp x (List.mem_append_right _ hx))
  · exact ok_one hres rfl (okWide_bool_mk htb _)
abbrev strRow (l : List ByteArray) : PV := .sl true 1 l.length fun i _ => .v (.string (l.getD i ByteArray.empty))
theorem strs_of_trod {t e : TypeId} {base : Nat} {sp : Nat → Bool} {held : Bool} {fuel : Nat} {cs : List Value} {p : List MemPlace} {l : List ByteArray} (hl : l ≠ []) (ht : P.underlying t = some (.slice e)) (he : P.underlying e = some .string) (hsz : P.cellsOf e = 1)
    (h : DataW.trod enc P w base sp held fuel t cs = some (.slice (l.map fun s => .lit (.string s.data.toList)) [], p)) : ∃ v, cs = [v] ∧ RepP (fun _ => True) w (strRow l) v := by
  rcases DataW.trod_slice ht h with ⟨_, hx⟩ | ⟨a, len, cap, elems, rest, n', rfl, rfl, hx, _, hlc, hcm, hel, hcell, _⟩
  · cases hx
  · refine ⟨_, rfl, ?_⟩
    simp only [Prod.mk.injEq, DataW.slice.injEq] at hx
    obtain ⟨⟨hx1, _⟩, _⟩ := hx
    have hlen : l.length = len := by
      rw [← hel]
      have := congrArg List.length hx1
      simpa using this
    have key : ∀ i, i < len → w.cell? ((a.add i).add 0) = some (.string (l.getD i ByteArray.empty)) := fun i hi => by
      have h1 := hcell i hi
      rw [List.getElem?_eq_getElem (by omega), Option.bind_eq_some_iff] at h1
      obtain ⟨cs', h2, h3⟩ := h1
      rw [hsz, Nat.mul_one] at h2
      obtain ⟨s, rfl, h4, _⟩ := DataW.trod_string he h3
      have h5 := (cells_spec h2).2 0 (by decide)
      simp only [List.getElem?_cons_zero] at h5
      have h6 : (elems[i]'(by omega)).1 = .lit (.string s.data.toList) := by rw [h4]
      have h7 : (l.map fun s => (DataW.lit (.string s.data.toList) : DataW H))[i]? = some (.lit (.string s.data.toList)) := by
        rw [hx1, List.getElem?_map, List.getElem?_eq_getElem (by omega), Option.map_some, h6]
      rw [List.getElem?_map, List.getElem?_eq_getElem (by omega), Option.map_some] at h7
      simp only [Option.some.injEq, DataW.lit.injEq, Lit.string.injEq] at h7
      have h8 : l[i]'(by omega) = s := by
        have := h7
        cases hs : s with
        | mk d =>
          cases hq : l[i]'(by omega) with
          | mk d' => rw [hs, hq] at this; simp only at this; congr 1; exact Array.toList_inj.1 this
      rw [List.getD_eq_getElem?_getD, List.getElem?_eq_getElem (by omega), Option.getD_some, h8]
      exact h5
    have hspot : a.spot = none := by
      have h0 : 0 < len := by
        rw [← hlen]
        exact List.length_pos_iff.2 hl
      have := World.cell?_spot (key 0 h0)
      simpa [Addr.add] using this
    obtain ⟨b, off, spt⟩ := a
    simp only at hspot
    subst hspot
    rw [show strRow l = .sl true 1 len fun i _ => .v (.string (l.getD i ByteArray.empty)) by rw [strRow, hlen]]
    refine .sl true 1 len _ b off cap (fun i _ => .string (l.getD i ByteArray.empty)) (fun i j hi hj => ?_) (fun i j hi hj => .v _) (fun _ _ _ _ => trivial) hlc
    obtain rfl : j = 0 := by omega
    have h1 := key i hi
    rw [addr_add, addr_add] at h1
    simpa using h1
end
end Go.Gw
