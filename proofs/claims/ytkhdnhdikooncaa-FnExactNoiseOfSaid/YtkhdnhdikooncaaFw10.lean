/- Weakening of states by computation, and what is left to be shown of a function; with no condition. -/
import Derived.Test.YtkhdnhdikooncaaFw9
namespace Go.Fw
open Go
set_option linter.unusedVariables false
set_option linter.unusedSimpArgs false

theorem PV.Le_v {x y : Value} : PV.Le (.v x) (.v y) ↔ x = y := ⟨fun h => by cases h; rfl, fun h => h ▸ .refl _⟩
theorem AV.Le_v {fr fr' : Bool} {x y : Value} : AV.Le (.p fr (.v x)) (.p fr' (.v y)) ↔ x = y := by
  constructor
  · intro h
    cases h with
    | p _ _ _ h => exact PV.Le_v.1 h
    | old _ _ _ h => exact PV.Le_v.1 h
    | sc => rfl
    | refl => rfl
  · rintro rfl; exact .sc _ _ _

/-- The same data, cell by cell, by computation. -/
def PV.leC : PV → PV → Prop
  | .v x, .v y => x = y
  | .sl nn esz n g, .sl nn' esz' n' g' => (nn' = true → nn = true) ∧ esz = esz' ∧ n = n' ∧ ∀ i j, i < n → j < esz → PV.Le (g i j) (g' i j)
  | .pp m h, .pp m' h' => m = m' ∧ ∀ j, j < m → PV.Le (h j) (h' j)
  | _, .any => True
  | c, d => c = d

theorem PV.leC_ok : ∀ {c d : PV}, PV.leC c d → PV.Le c d := by
  intro c d h
  unfold PV.leC at h
  split at h
  · exact h ▸ .refl _
  · obtain ⟨h1, rfl, h2, h3⟩ := h; exact .sl _ _ h1 _ _ _ _ _ h2 h3
  · obtain ⟨rfl, h3⟩ := h; exact .pp _ _ _ h3
  · exact .any _
  · exact h ▸ .refl _

def rho (ρ : List (Nat × Nat)) (j : Nat) : Nat := (look ρ j).getD j
def isNew (nw : List Nat) (j : Nat) : Bool := nw.contains j
def keptC (s' : St) (ρ : List (Nat × Nat)) (nw : List Nat) (i : Nat) : Bool := s'.H.any fun x => !isNew nw x.1 && rho ρ x.1 == i

def PV.isV : PV → Bool
  | .v _ => true
  | _ => false

def PV.isNilSl : PV → Bool
  | .v (.slice none 0 0) => true
  | _ => false

theorem PV.isNilSl_ok {c : PV} (h : c.isNilSl = true) : c = .v (.slice none 0 0) := by
  unfold PV.isNilSl at h
  split at h
  · rfl
  · cases h

mutual
def AV.leC (s s' : St) (ρ : List (Nat × Nat)) (nw : List Nat) : AV → AV → Prop
  | .p fr c, .p fr' d => (fr' = true → fr = true ∨ (c.isV = true ∧ d.isV = true)) ∧ PV.leC c d
  | .p _ c, .own i => c.isNilSl = true ∧ isNew nw i = true
  | .own i, .own j => i = rho ρ j ∧ isNew nw j = false
  | .own i, .p fr' d => match s.obj i with
    | some (.row fr esz n g) => (fr' = true → fr = true) ∧ keptC s' ρ nw i = false ∧ PV.leC (.sl false esz n g) d
    | _ => d = .any ∧ fr' = false
  | .adr i o, .adr j o' => i = rho ρ j ∧ o = o' ∧ isNew nw j = false
  | .elt i a b c, .elt j a' b' c' => i = rho ρ j ∧ a = a' ∧ b = b' ∧ c = c' ∧ isNew nw j = false
  | .ag cs, .ag ds => AV.leCs s s' ρ nw cs ds
  | .tp cs, .tp ds => AV.leCs s s' ρ nw cs ds
  | .cl f a b, .cl f' a' b' => f = f' ∧ AV.leCs s s' ρ nw a a' ∧ AV.leCs s s' ρ nw b b'
  | _, .p fr d => d = .any ∧ fr = false
  | _, _ => False
def AV.leCs (s s' : St) (ρ : List (Nat × Nat)) (nw : List Nat) : List AV → List AV → Prop
  | [], [] => True
  | c :: cs, d :: ds => AV.leC s s' ρ nw c d ∧ AV.leCs s s' ρ nw cs ds
  | _, _ => False
end

theorem keptC_ok {s' : St} {ρ : List (Nat × Nat)} {nw : List Nat} {i : Nat} (h : keptC s' ρ nw i = false) : ¬ keptBy (rho ρ) (isNew nw) s' i := by
  rintro ⟨j, o, h1, h2, h3⟩
  have hmem : ∀ (l : List (Nat × Ob)), look l j = some o → (j, o) ∈ l := by
    intro l
    induction l with
    | nil => intro h; simp [look] at h
    | cons x r ih =>
      obtain ⟨u, d⟩ := x
      intro h
      simp only [look] at h
      split at h
      · rename_i e; cases h; subst e; exact List.mem_cons_self
      · exact List.mem_cons_of_mem _ (ih h)
  have := List.any_eq_false.1 h (j, o) (hmem _ h1)
  simp [h2, h3] at this


theorem any_ok {s s' : St} {ρ : List (Nat × Nat)} {nw : List Nat} {c : AV} {fr : Bool} {d : PV} (h : d = .any ∧ fr = false) : AvLe s (rho ρ) (isNew nw) (keptBy (rho ρ) (isNew nw) s') c (.p fr d) := by
  obtain ⟨rfl, rfl⟩ := h; exact .any _

mutual
theorem AV.leC_ok {s s' : St} {ρ : List (Nat × Nat)} {nw : List Nat} : ∀ (c d : AV), AV.leC s s' ρ nw c d → AvLe s (rho ρ) (isNew nw) (keptBy (rho ρ) (isNew nw) s') c d
  | .p fr c, .p fr' d, h => by
    simp only [AV.leC] at h
    obtain ⟨h1, h2⟩ := h
    cases fr' with
    | false => exact .leo _ _ _ (PV.leC_ok h2)
    | true =>
      rcases h1 rfl with rfl | ⟨h1, h3⟩
      · exact .le _ _ _ (PV.leC_ok h2)
      · cases c <;> simp only [PV.isV, Bool.false_eq_true] at h1
        cases d <;> simp only [PV.isV, Bool.false_eq_true] at h3
        simp only [PV.leC] at h2
        subst h2
        exact .sc _ _ _
  | .p fr c, .own i, h => by
    simp only [AV.leC] at h
    cases PV.isNilSl_ok h.1
    exact .nil _ _ h.2
  | .p _ _, .adr _ _, h => by simp [AV.leC] at h
  | .p _ _, .elt _ _ _ _, h => by simp [AV.leC] at h
  | .p _ _, .ag _, h => by simp [AV.leC] at h
  | .p _ _, .tp _, h => by simp [AV.leC] at h
  | .p _ _, .cl _ _ _, h => by simp [AV.leC] at h
  | .own i, .own j, h => by
    simp only [AV.leC] at h
    obtain ⟨rfl, h⟩ := h
    exact .own _ h
  | .own i, .p fr' d, h => by
    simp only [AV.leC] at h
    split at h
    · rename_i fr esz n g ho
      obtain ⟨h1, h2, h3⟩ := h
      cases fr' with
      | false => exact .frz' i fr esz n g d ho (keptC_ok h2) (PV.leC_ok h3)
      | true => cases h1 rfl; exact .frz i true esz n g d ho (keptC_ok h2) (PV.leC_ok h3)
    · exact any_ok h
  | .own _, .adr _ _, h => by simp [AV.leC] at h
  | .own _, .elt _ _ _ _, h => by simp [AV.leC] at h
  | .own _, .ag _, h => by simp [AV.leC] at h
  | .own _, .tp _, h => by simp [AV.leC] at h
  | .own _, .cl _ _ _, h => by simp [AV.leC] at h
  | .adr i o, .adr j o', h => by
    simp only [AV.leC] at h
    obtain ⟨rfl, rfl, h⟩ := h
    exact .adr _ _ h
  | .adr _ _, .p fr d, h => by simp only [AV.leC] at h; exact any_ok h
  | .adr _ _, .own _, h => by simp [AV.leC] at h
  | .adr _ _, .elt _ _ _ _, h => by simp [AV.leC] at h
  | .adr _ _, .ag _, h => by simp [AV.leC] at h
  | .adr _ _, .tp _, h => by simp [AV.leC] at h
  | .adr _ _, .cl _ _ _, h => by simp [AV.leC] at h
  | .elt i a b c, .elt j a' b' c', h => by
    simp only [AV.leC] at h
    obtain ⟨rfl, rfl, rfl, rfl, h⟩ := h
    exact .elt _ _ _ _ h
  | .elt _ _ _ _, .p fr d, h => by simp only [AV.leC] at h; exact any_ok h
  | .elt _ _ _ _, .own _, h => by simp [AV.leC] at h
  | .elt _ _ _ _, .adr _ _, h => by simp [AV.leC] at h
  | .elt _ _ _ _, .ag _, h => by simp [AV.leC] at h
  | .elt _ _ _ _, .tp _, h => by simp [AV.leC] at h
  | .elt _ _ _ _, .cl _ _ _, h => by simp [AV.leC] at h
  | .ag cs, .ag ds, h => by
    simp only [AV.leC] at h
    exact .ag _ _ (AV.leCs_ok cs ds h).1 (AV.leCs_ok cs ds h).2
  | .ag _, .p fr d, h => by simp only [AV.leC] at h; exact any_ok h
  | .ag _, .own _, h => by simp [AV.leC] at h
  | .ag _, .adr _ _, h => by simp [AV.leC] at h
  | .ag _, .elt _ _ _ _, h => by simp [AV.leC] at h
  | .ag _, .tp _, h => by simp [AV.leC] at h
  | .ag _, .cl _ _ _, h => by simp [AV.leC] at h
  | .tp cs, .tp ds, h => by
    simp only [AV.leC] at h
    exact .tp _ _ (AV.leCs_ok cs ds h).1 (AV.leCs_ok cs ds h).2
  | .tp _, .p fr d, h => by simp only [AV.leC] at h; exact any_ok h
  | .tp _, .own _, h => by simp [AV.leC] at h
  | .tp _, .adr _ _, h => by simp [AV.leC] at h
  | .tp _, .elt _ _ _ _, h => by simp [AV.leC] at h
  | .tp _, .ag _, h => by simp [AV.leC] at h
  | .tp _, .cl _ _ _, h => by simp [AV.leC] at h
  | .cl f a b, .cl f' a' b', h => by
    simp only [AV.leC] at h
    obtain ⟨rfl, h1, h2⟩ := h
    exact .cl _ _ _ _ _ (AV.leCs_ok a a' h1).1 (AV.leCs_ok b b' h2).1 (AV.leCs_ok a a' h1).2 (AV.leCs_ok b b' h2).2
  | .cl _ _ _, .p fr d, h => by simp only [AV.leC] at h; exact any_ok h
  | .cl _ _ _, .own _, h => by simp [AV.leC] at h
  | .cl _ _ _, .adr _ _, h => by simp [AV.leC] at h
  | .cl _ _ _, .elt _ _ _ _, h => by simp [AV.leC] at h
  | .cl _ _ _, .ag _, h => by simp [AV.leC] at h
  | .cl _ _ _, .tp _, h => by simp [AV.leC] at h
theorem AV.leCs_ok {s s' : St} {ρ : List (Nat × Nat)} {nw : List Nat} : ∀ (cs ds : List AV), AV.leCs s s' ρ nw cs ds →
    cs.length = ds.length ∧ ∀ (j : Nat) (c d : AV), cs[j]? = some c → ds[j]? = some d → AvLe s (rho ρ) (isNew nw) (keptBy (rho ρ) (isNew nw) s') c d
  | [], [], h => ⟨rfl, fun j c d h => by simp at h⟩
  | c :: cs, d :: ds, h => by
    simp only [AV.leCs] at h
    have := AV.leCs_ok cs ds h.2
    refine ⟨by simp [this.1], fun j x y hx hy => ?_⟩
    cases j with
    | zero =>
      simp only [List.getElem?_cons_zero, Option.some.injEq] at hx hy
      subst hx
      subst hy
      exact AV.leC_ok c d h.1
    | succ j => exact this.2 j x y (by simpa using hx) (by simpa using hy)
  | [], _ :: _, h => by simp [AV.leCs] at h
  | _ :: _, [], h => by simp [AV.leCs] at h
end

def leEnv (s s' : St) (ρ : List (Nat × Nat)) (nw : List Nat) : List (Nat × AV) → Prop
  | [] => True
  | (t, c) :: r => AV.leC s s' ρ nw (s.get t) c ∧ leEnv s s' ρ nw r

def obLe (s s' : St) (ρ : List (Nat × Nat)) (nw : List Nat) (j : Nat) : Ob → Prop
  | .box ds => isNew nw j = false ∧ match s.obj (rho ρ j) with
    | some (.box cs) => AV.leCs s s' ρ nw cs ds
    | _ => False
  | .row fr' esz' n' g' => match isNew nw j with
    | true => n' = 0
    | false => match s.obj (rho ρ j) with
      | some (.row fr esz n g) => (fr' = true → fr = true) ∧ esz = esz' ∧ n = n' ∧ ∀ i j, i < n → j < esz → PV.Le (g i j) (g' i j)
      | _ => False

def leObs (s s' : St) (ρ : List (Nat × Nat)) (nw : List Nat) : List (Nat × Ob) → Prop
  | [] => True
  | (j, o) :: r => obLe s s' ρ nw j o ∧ leObs s s' ρ nw r

def injB (ρ : List (Nat × Nat)) (nw : List Nat) : List (Nat × Ob) → Bool
  | [] => true
  | (j, _) :: r => (isNew nw j || r.all fun x => isNew nw x.1 || x.1 == j || rho ρ x.1 != rho ρ j) && injB ρ nw r

def stLe (s s' : St) (ρ : List (Nat × Nat)) (nw : List Nat) : Prop := leEnv s s' ρ nw s'.env ∧ leObs s s' ρ nw s'.H ∧ injB ρ nw s'.H = true

theorem leEnv_mem {s s' : St} {ρ : List (Nat × Nat)} {nw : List Nat} : ∀ {l : List (Nat × AV)} {t : Nat} {c : AV}, leEnv s s' ρ nw l → (t, c) ∈ l → AV.leC s s' ρ nw (s.get t) c
  | (u, d) :: r, t, c, h, hm => by
    rcases List.mem_cons.1 hm with e | hm
    · cases e; exact h.1
    · exact leEnv_mem h.2 hm

theorem leObs_mem {s s' : St} {ρ : List (Nat × Nat)} {nw : List Nat} : ∀ {l : List (Nat × Ob)} {t : Nat} {c : Ob}, leObs s s' ρ nw l → (t, c) ∈ l → obLe s s' ρ nw t c
  | (u, d) :: r, t, c, h, hm => by
    rcases List.mem_cons.1 hm with e | hm
    · cases e; exact h.1
    · exact leObs_mem h.2 hm

theorem injB_ok {ρ : List (Nat × Nat)} {nw : List Nat} : ∀ {l : List (Nat × Ob)} {j j' : Nat} {o o' : Ob}, injB ρ nw l = true → (j, o) ∈ l → (j', o') ∈ l → isNew nw j = false → isNew nw j' = false → rho ρ j = rho ρ j' → j = j'
  | (u, d) :: r, j, j', o, o', h, hm, hm', hn, hn', he => by
    simp only [injB, Bool.and_eq_true, Bool.or_eq_true, List.all_eq_true] at h
    rcases List.mem_cons.1 hm with e | hm1 <;> rcases List.mem_cons.1 hm' with e' | hm1'
    · cases e; cases e'; rfl
    · cases e
      rcases h.1 with h1 | h1
      · rw [hn] at h1; cases h1
      · have := h1 _ hm1'
        simp [hn'] at this
        rcases this with h2 | h2
        · exact h2.symm
        · exact (h2 he.symm).elim
    · cases e'
      rcases h.1 with h1 | h1
      · rw [hn'] at h1; cases h1
      · have := h1 _ hm1
        simp [hn] at this
        rcases this with h2 | h2
        · exact h2
        · exact (h2 he).elim
    · exact injB_ok h.2 hm1 hm1' hn hn' he

theorem stLe_ok {s s' : St} {ρ : List (Nat × Nat)} {nw : List Nat} (h : stLe s s' ρ nw) : StLe s s' (rho ρ) (isNew nw) where
  env := fun t => by
    unfold St.get
    cases hl : look s'.env t with
    | none => exact .any _
    | some c => exact AV.leC_ok _ _ (leEnv_mem h.1 (look_mem hl))
  obs := fun j o' ho => by
    have := leObs_mem h.2.1 (look_mem ho)
    cases o' with
    | box ds =>
      simp only [obLe] at this
      obtain ⟨h1, h2⟩ := this
      split at h2
      · rename_i cs hc
        exact .inl ⟨h1, _, hc, .box _ _ (AV.leCs_ok cs ds h2).1 (AV.leCs_ok cs ds h2).2⟩
      · exact h2.elim
    | row fr' esz' n' g' =>
      simp only [obLe] at this
      split at this
      · rename_i hn; subst this; exact .inr ⟨hn, _, _, _, rfl⟩
      · rename_i hn
        split at this
        · rename_i fr esz n g ho2
          obtain ⟨h1, rfl, h3, h4⟩ := this
          refine .inl ⟨hn, _, ho2, ?_⟩
          cases fr' with
          | false => exact .old _ _ _ _ _ _ h3 h4
          | true => cases h1 rfl; exact .row _ _ _ _ _ _ h3 h4
        · exact this.elim
  inj := fun j o j' o' h1 h2 h3 h4 h5 => injB_ok h.2.2 (look_mem h1) (look_mem h2) h3 h4 h5

theorem Again.mk {σ : Type} {st : σ → St} {inv : σ → Prop} {μ : σ → Nat} {x : σ} {s' : St} (x' : σ) (ρ : List (Nat × Nat)) (nw : List Nat) (h1 : inv x') (h2 : μ x' < μ x) (h3 : stLe s' (st x') ρ nw) : Again st inv μ x s' :=
  ⟨x', h1, h2, _, _, stLe_ok h3⟩

section
variable {P : Program} {G : List (Nat × PV)} {rl : List RI} {R : AV → Prop}

/-- A loop by its relation, by what its rounds come to. -/
theorem loop_by {b : Ir} {k : List Item} {s : St} {σ : Type} (st : σ → St) (inv : σ → Prop) (μ : σ → Nat) (x0 : σ) (ρ : List (Nat × Nat)) (nw : List Nat) (h0 : inv x0) (hs : stLe s (st x0) ρ nw)
    {n : Nat} {or : (σ → St → Prop) → σ → Or} {vc : (σ → St → Prop) → σ → VC} (he : ∀ (I : σ → St → Prop) x, ev G rl n (or I x) (.ir b :: .lend (I x) :: k) (st x) = vc I x)
    (hr : ∀ x, inv x → (vc (Again st inv μ) x).holds P G rl R) : (VC.loop b k s).holds P G rl R :=
  MLoop.mk st inv μ x0 h0 ⟨_, _, stLe_ok hs⟩ fun x hx => ev_ok n _ _ _ ((he _ x).symm ▸ hr x hx)

theorem PCall.by {f : FuncId} {args : List AV} {keep : List Nat} {ir : Ir} {n : Nat} {or : Or} {vc : VC}
    (hc : chk P f args.length keep = some (ir, rl)) (he : Go.Fw.ev G rl n or [.ir ir] ⟨argEnv 0 args, []⟩ = vc) (h : vc.holds P G rl R) : PCall P G f args R :=
  PCall.ev hc (he.symm ▸ h)

theorem PRet.by {f : FuncId} {args : List AV} {r : AV} {keep : List Nat} {ir : Ir} {n : Nat} {or : Or} {vc : VC}
    (hc : chk P f args.length keep = some (ir, rl)) (he : Go.Fw.ev G rl n or [.ir ir] ⟨argEnv 0 args, []⟩ = vc) (h : vc.holds P G rl (fun x => x = r)) : PRet P G f args r :=
  PCall.ev hc (he.symm ▸ h)

theorem VC.done_ret {c r : AV} : (VC.done c).holds P G rl (fun x => x = r) ↔ (r.closed = true ∧ AV.Le c r) := by
  simp only [VC.holds]
  constructor
  · rintro ⟨d, h1, h2, rfl⟩; exact ⟨h1, h2⟩
  · rintro ⟨h1, h2⟩; exact ⟨r, h1, h2, rfl⟩
theorem VC.holds_fail : (VC.fail).holds P G rl R = False := rfl
theorem VC.holds_need {p : Prop} {v : VC} : (VC.need p v).holds P G rl R = (p ∧ v.holds P G rl R) := rfl
theorem VC.holds_split {b : Bool} {t f : VC} : (VC.split b t f).holds P G rl R = ((b = true → t.holds P G rl R) ∧ (b = false → f.holds P G rl R)) := rfl
theorem VC.holds_call {f : FuncId} {args : List AV} {r : AV} {v : VC} : (VC.call f args r v).holds P G rl R = (PRet P G f args r ∧ v.holds P G rl R) := rfl
theorem VC.holds_callE {α : Type} {f : FuncId} {args : List AV} {φ : α → Prop} {r : α → AV} {v : α → VC} : (VC.callE α f args φ r v).holds P G rl R = (PCall P G f args (fun c => ∃ x, φ x ∧ c = r x) ∧ ∀ x, φ x → (v x).holds P G rl R) := rfl
theorem VC.holds_lend {I : St → Prop} {s : St} : (VC.lend I s).holds P G rl R = I s := rfl
end
end Go.Fw
