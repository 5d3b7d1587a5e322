/- Arguments in other words; rows of whole numbers; with no condition. -/
import Derived.Test.YtopnhnnfobbocaaDoorGw26
namespace Go.Gw
open Go
set_option linter.unusedVariables false
set_option linter.unusedSimpArgs false

mutual
/-- The same value, by computation. -/
def AV.leP : AV → AV → Prop
  | .p fr c, .p fr' d => (fr' = true → fr = true ∨ (c.isVal = true ∧ d.isVal = true)) ∧ PV.leC c d
  | .own i, .own j => i = j
  | .adr i o, .adr j o' => i = j ∧ o = o'
  | .elt i a b c, .elt j a' b' c' => i = j ∧ a = a' ∧ b = b' ∧ c = c'
  | .ag cs, .ag ds => AV.lePs cs ds
  | .tp cs, .tp ds => AV.lePs cs ds
  | .cl f a b, .cl f' a' b' => f = f' ∧ AV.lePs a a' ∧ AV.lePs b b'
  | _, _ => False
def AV.lePs : List AV → List AV → Prop
  | [], [] => True
  | c :: cs, d :: ds => AV.leP c d ∧ AV.lePs cs ds
  | _, _ => False
end

section
variable {F Z : Nat → Prop} {ι : Nat → Value} {w : World}
mutual
theorem AV.leP_ok (hFZ : ∀ b, F b → Z b) : ∀ (c d : AV), AV.leP c d → ∀ x, RepA F Z ι w c x → RepA F Z ι w d x
  | .p fr c, d, h, x, hx => by
    cases d <;> simp only [AV.leP] at h
    case p fr' d =>
      obtain ⟨h1, h2⟩ := h
      rw [rep_p] at hx ⊢
      cases fr' with
      | false =>
        refine RepP.le (PV.leC_ok h2) ?_
        cases fr with
        | false => exact hx
        | true => exact hx.mono fun b hb _ => ⟨rfl, hFZ b hb⟩
      | true =>
        rcases h1 rfl with rfl | ⟨h1, h3⟩
        · exact RepP.le (PV.leC_ok h2) hx
        · cases c <;> simp only [PV.isVal, Bool.false_eq_true] at h1
          cases d <;> simp only [PV.isVal, Bool.false_eq_true] at h3
          simp only [PV.leC] at h2
          subst h2
          cases hx
          exact .v _
  | .own i, d, h, x, hx => by cases d <;> simp only [AV.leP] at h; subst h; exact hx
  | .adr i o, d, h, x, hx => by cases d <;> simp only [AV.leP] at h; obtain ⟨rfl, rfl⟩ := h; exact hx
  | .elt i a b c, d, h, x, hx => by cases d <;> simp only [AV.leP] at h; obtain ⟨rfl, rfl, rfl, rfl⟩ := h; exact hx
  | .ag cs, d, h, x, hx => by
    cases d <;> simp only [AV.leP] at h
    cases hx with
    | ag _ xs h1 h2 =>
      have := AV.lePs_ok hFZ cs _ h
      refine .ag _ xs (h1.trans this.1) fun j d hj => ?_
      have hlt := (List.getElem?_eq_some_iff.1 hj).1
      rw [← this.1] at hlt
      exact this.2 j _ d (List.getElem?_eq_getElem hlt) hj _ (h2 j _ (List.getElem?_eq_getElem hlt))
  | .tp cs, d, h, x, hx => by
    cases d <;> simp only [AV.leP] at h
    cases hx with
    | tp _ xs h1 h2 =>
      have := AV.lePs_ok hFZ cs _ h
      refine .tp _ xs (h1.trans this.1) fun j d hj => ?_
      have hlt := (List.getElem?_eq_some_iff.1 hj).1
      rw [← this.1] at hlt
      exact this.2 j _ d (List.getElem?_eq_getElem hlt) hj _ (h2 j _ (List.getElem?_eq_getElem hlt))
  | .cl f a b, d, h, x, hx => by
    cases d <;> simp only [AV.leP] at h
    obtain ⟨rfl, h1, h2⟩ := h
    cases hx with
    | cl _ _ _ fs xs h3 h4 h5 h6 =>
      have t1 := AV.lePs_ok hFZ a _ h1
      have t2 := AV.lePs_ok hFZ b _ h2
      refine .cl f _ _ fs xs (h3.trans t1.1) (h4.trans t2.1) (fun j d hj => ?_) (fun j d hj => ?_)
      · have hlt := (List.getElem?_eq_some_iff.1 hj).1
        rw [← t1.1] at hlt
        exact t1.2 j _ d (List.getElem?_eq_getElem hlt) hj _ (h5 j _ (List.getElem?_eq_getElem hlt))
      · have hlt := (List.getElem?_eq_some_iff.1 hj).1
        rw [← t2.1] at hlt
        exact t2.2 j _ d (List.getElem?_eq_getElem hlt) hj _ (h6 j _ (List.getElem?_eq_getElem hlt))
theorem AV.lePs_ok (hFZ : ∀ b, F b → Z b) : ∀ (cs ds : List AV), AV.lePs cs ds → cs.length = ds.length ∧ ∀ (j : Nat) (c d : AV), cs[j]? = some c → ds[j]? = some d → ∀ x, RepA F Z ι w c x → RepA F Z ι w d x
  | [], [], _ => ⟨rfl, fun j c d h => by simp at h⟩
  | c :: cs, d :: ds, h => by
    simp only [AV.lePs] at h
    have := AV.lePs_ok hFZ cs ds h.2
    refine ⟨by simp [this.1], fun j x y hx hy => ?_⟩
    cases j with
    | zero => simp at hx hy; subst hx; subst hy; exact AV.leP_ok hFZ c d h.1
    | succ j => exact this.2 j x y (by simpa using hx) (by simpa using hy)
  | [], _ :: _, h => by simp [AV.lePs] at h
  | _ :: _, [], h => by simp [AV.lePs] at h
end
end

def Ob.leP : Ob → Ob → Prop
  | .box cs, .box ds => AV.lePs cs ds
  | .row m nn esz n g hl, .row m' nn' esz' n' g' hl' => m = m' ∧ (nn' = true → nn = true) ∧ esz = esz' ∧ n = n' ∧ hl = [] ∧ hl' = [] ∧ ∀ i j, i < n → j < esz → PV.Le (g i j) (g' i j)
  | .map f n, .map f' n' => n = n' ∧ ∀ k, f k = f' k
  | _, _ => False

def leHs : List (Nat × Ob) → List (Nat × Ob) → Prop
  | [], [] => True
  | (i, o) :: r, (j, o') :: r' => i = j ∧ Ob.leP o o' ∧ leHs r r'
  | _, _ => False

theorem leHs_look : ∀ {H H' : List (Nat × Ob)}, leHs H H' → ∀ i, (∀ o', look H' i = some o' → ∃ o, look H i = some o ∧ Ob.leP o o') ∧ ((look H i).isSome = (look H' i).isSome)
  | [], [], _, i => ⟨fun o' h => by simp [look] at h, rfl⟩
  | (a, o) :: r, (b, o2) :: r', h, i => by
    simp only [leHs] at h
    obtain ⟨rfl, h1, h2⟩ := h
    have := leHs_look h2 i
    simp only [look]
    split
    · exact ⟨fun o' h => by cases h; exact ⟨o, rfl, h1⟩, rfl⟩
    · exact this
  | [], _ :: _, h, _ => by simp [leHs] at h
  | _ :: _, [], h, _ => by simp [leHs] at h

/-- A contract for arguments of which more is known. -/
theorem PCall.args {P : Program} {G : List (Nat × PV)} {f : FuncId} {args args' : List AV} {H H' : List (Nat × Ob)} {R : AV → List (Nat × Ob) → Prop} (h : PCall P G f args' H' R) (ha : AV.lePs args args') (hH : leHs H H') : PCall P G f args H R := by
  refine ⟨h.1, fun w Z0 ι ow vs h1 h2 h3 h4 h5 h6 => ?_⟩
  have hle := AV.lePs_ok (F := fun _ => False) (Z := Z0) (ι := ι) (w := w) (fun b hb => hb.elim) args args' ha
  refine (h.2 w Z0 ι ow vs (h1.trans hle.1) (fun b i hb => ?_) h3 (fun i o' ho' => ?_) (fun j c hj => ?_) h6).mono ?_
  · rw [← (leHs_look hH i).2]; exact h2 b i hb
  · obtain ⟨o, ho, hl⟩ := (leHs_look hH i).1 o' ho'
    have hob := h4 i o ho
    cases o with
    | box cs =>
      cases o' <;> simp only [Ob.leP] at hl
      have t1 := AV.lePs_ok (F := fun _ => False) (Z := Z0) (ι := ι) (w := w) (fun b hb => hb.elim) _ _ hl
      obtain ⟨b, c, t, e1, e2, e3, e4, e5⟩ := hob
      refine ⟨b, c, t, e1, e2, e3, e4.trans t1.1, fun j d hj => ?_⟩
      have hlt := (List.getElem?_eq_some_iff.1 hj).1
      rw [← t1.1] at hlt
      exact t1.2 j _ d (List.getElem?_eq_getElem hlt) hj _ (e5 j _ (List.getElem?_eq_getElem hlt))
    | row m nn esz n g hl0 =>
      cases o' <;> simp only [Ob.leP] at hl
      rename_i m' nn' esz' n' g' hl'
      obtain ⟨rfl, hnn, rfl, rfl, rfl, rfl, hg⟩ := hl
      rcases hob with ⟨e0, ⟨e1, e2⟩ | e1⟩ | ⟨b, cap, c, t, q, e1, e2, e3, e4, e5, eq, e6⟩
      · refine .inl ⟨e0, .inl ⟨?_, e2⟩⟩
        cases nn' with
        | false => rfl
        | true => rw [hnn rfl] at e1; cases e1
      · exact .inl ⟨e0, .inr e1⟩
      · refine .inr ⟨b, cap, c, t, q, e1, e2, e3, e4, e5, eq, fun p r hp hr => ?_⟩
        have e7 := e6 p r hp hr
        cases m <;> simp only [EltOk] at e7 ⊢
        · exact e7.le (hg p r hp hr)
        · exact e7.le (hg p r hp hr)
        · simp only [hole] at e7 ⊢
          exact e7.le (hg p r hp hr)
    | map f n =>
      cases o' <;> simp only [Ob.leP] at hl
      obtain ⟨rfl, hf⟩ := hl
      rename_i f'
      have : f = f' := funext hf
      subst this
      exact hob
  · have hlt := (List.getElem?_eq_some_iff.1 hj).1
    rw [← hle.1] at hlt
    exact hle.2 j _ c (List.getElem?_eq_getElem hlt) hj _ (h5 j _ (List.getElem?_eq_getElem hlt))
  · rintro e w' ⟨x, r, H2, ι', ow', h7, h8, h9, h10, h11, h12, h13⟩
    refine ⟨x, r, H2, ι', ow', h7, h8, fun i hi hi' => h9 i ?_ hi', h10, h11, h12, h13⟩
    rw [← (leHs_look hH i).2]; exact hi

theorem PObj.args {P : Program} {G : List (Nat × PV)} {f : FuncId} {args args' : List AV} {H H' : List (Nat × Ob)} {r : AV} {H2 : List (Nat × Ob)} (h : PObj P G f args' H' r H2) (ha : AV.lePs args args') (hH : leHs H H') : PObj P G f args H r H2 := PCall.args h ha hH
theorem PRet.args {P : Program} {G : List (Nat × PV)} {f : FuncId} {args args' : List AV} {r : AV} (h : PRet P G f args' r) (ha : AV.lePs args args') : PRet P G f args r := PCall.args h ha trivial

/-! ### Rows of whole numbers -/
/-- All cells are whole numbers. -/
def IntCells (esz n : Nat) (g : Nat → Nat → PV) : Prop := ∀ i j, i < n → j < esz → g i j = PI (intOf (g i j))

abbrev SL (nn : Bool) (esz n : Nat) (g : Nat → Nat → PV) : AV := .p false (.sl nn esz n g)
/-- A row of whole numbers, one to a cell. -/
abbrev IL (nn : Bool) (n : Nat) (f : Nat → Int) : AV := .p false (.sl nn 1 n fun i _ => PI (f i))

theorem PV.Le_ints {nn : Bool} {n : Nat} {g : Nat → Nat → PV} (hg : IntCells 1 n g) : PV.leC (.sl nn 1 n g) (.sl nn 1 n fun i _ => PI (intOf (g i 0))) :=
  ⟨fun h => h, rfl, rfl, fun i j hi hj => by
    obtain rfl : j = 0 := by omega
    rw [hg i 0 hi hj]
    exact .refl _⟩

theorem PV.leC_rfl : ∀ (c : PV), PV.leC c c
  | .v _ => rfl
  | .sl _ _ _ _ => ⟨fun h => h, rfl, rfl, fun _ _ _ _ => .refl _⟩
  | .pp _ _ => ⟨rfl, fun _ _ => .refl _⟩
  | .cl _ _ _ => rfl
  | .nm x c => ⟨rfl, PV.leC_rfl c⟩
  | .any => trivial
theorem AV.leP_p (fr : Bool) (c : PV) : AV.leP (.p fr c) (.p fr c) := ⟨fun h => .inl h, PV.leC_rfl c⟩
theorem AV.leP_ints {nn : Bool} {n : Nat} {g : Nat → Nat → PV} (hg : IntCells 1 n g) : AV.leP (SL nn 1 n g) (IL nn n fun i => intOf (g i 0)) := ⟨fun h => (by cases h), PV.Le_ints hg⟩
end Go.Gw
