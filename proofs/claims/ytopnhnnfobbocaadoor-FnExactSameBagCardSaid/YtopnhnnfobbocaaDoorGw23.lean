/- Branches and loops of the code, walked over abstract states; with no condition. -/
import Derived.Test.YtopnhnnfobbocaaDoorGw22
namespace Go.Gw
open Go
set_option linter.unusedVariables false
set_option linter.unusedSimpArgs false

/-! ### Code -/
inductive Ir where
  | skip
  | reg (drop : List Nat) (ops : List IOpr)
  | dreg (drop : List Nat) (bits : List Nat) (allocs : List (Nat × Nat)) (ops : List IOpr)
  | seq (a b : Ir)
  | cond (c : Operand) (a b : Ir)
  | block (id : Nat) (b : Ir)
  | loop (b : Ir)
  | exit (id : Nat)
  | ret

/-- Objects of which nobody speaks. -/
def idleObs (s : St) : List (Nat × Ob) → List Nat
  | [] => []
  | (i, _) :: r => match s.noidB i with
    | true => i :: idleObs s r
    | false => idleObs s r

def St.tidy (s : St) (l : List Nat) : St :=
  let s' := (s.drop l).settle
  s'.dels (idleObs s' s'.H)

theorem Wk.tidy (s : St) (l : List Nat) : Wk s (s.tidy l) := (Wk.drop s l).trans ((Wk.settle _).trans (Wk.dels _ _))

/-- Behind a round: the relation again, and less to do. -/
def LoopQ {σ : Type} (st : σ → St) (inv : σ → Prop) (μ : σ → Nat) (x : σ) (Q : Exit → St → Prop) : Exit → St → Prop
  | .normal, s' => ∃ x', inv x' ∧ μ x' < μ x ∧ Wk s' (st x')
  | .exit j, s' => Q (.exit j) s'
  | .ret, s' => Q .ret s'
  | .goto l, s' => Q (.goto l) s'
  | .panic c, s' => Q (.panic c) s'
  | .outgrown, s' => Q .outgrown s'

def LoopWp (body : St → (Exit → St → Prop) → Prop) (s : St) (Q : Exit → St → Prop) : Prop :=
  ∃ (σ : Type) (st : σ → St) (inv : σ → Prop) (μ : σ → Nat) (x0 : σ), inv x0 ∧ Wk s (st x0) ∧
    ∀ x, inv x → body (st x) (LoopQ st inv μ x Q)

def SWI (P : Program) (G : List (Nat × PV)) : Ir → St → (Exit → St → Prop) → Prop
  | .skip, s, Q => Q .normal s
  | .reg drop ops, s, Q => AOps P G ops s (fun s' => Q .normal (s'.tidy drop))
  | .dreg drop bits allocs ops, s, Q => (allocs.all fun x => s.noidB x.2) = true ∧ AOpsD P G bits allocs 0 ops [] s (fun s' => Q .normal (s'.tidy drop))
  | .seq a b, s, Q => SWI P G a s (fun e s' => match e with | .normal => ∃ s'', Wk s' s'' ∧ SWI P G b s'' Q | e => Q e s')
  | .cond c x y, s, Q => match opd G s c with
    | .p _ (.v (.bool b)) => (b = true → ∃ s', Wk s s' ∧ SWI P G x s' Q) ∧ (b = false → ∃ s', Wk s s' ∧ SWI P G y s' Q)
    | _ => False
  | .block id b, s, Q => SWI P G b s (fun e s' => match e with
    | .exit j => if j = id then Q .normal s' else Q (.exit j) s'
    | e => Q e s')
  | .loop b, s, Q => LoopWp (fun s Q => ∃ s', Wk s s' ∧ SWI P G b s' Q) s Q
  | .exit id, s, Q => Q (.exit id) s
  | .ret, s, Q => Q .ret s

def comp (P : Program) (n : Nat) (drop : List Nat → List Nat) : Code → Option Ir
  | .skip => some .skip
  | .region id ops draw => match ops.toList.mapM (compOper P n ops) with
    | none => none
    | some l => if draw then
        if P.follows .mixedOrders && drawOk ops l then some (.dreg (drop (l.filterMap IOpr.d)) (ancs [] ops.toList) (allocsOf 0 l) l) else none
      else some (.reg (drop (l.filterMap IOpr.d)) l)
  | .seq a b => match comp P n drop a, comp P n drop b with
    | some x, some y => some (.seq x y)
    | _, _ => none
  | .cond c a b => match comp P n drop a, comp P n drop b with
    | some x, some y => some (.cond c x y)
    | _, _ => none
  | .block id b => (comp P n drop b).map (.block id)
  | .loop b => (comp P n drop b).map .loop
  | .exit id => some (.exit id)
  | .ret => some .ret
  | _ => none

open Classical in
noncomputable def leastOf (p : Nat → Prop) : Nat := if h : ∃ k, p k ∧ ∀ j, p j → k ≤ j then h.choose else 0

theorem leastOf_spec {p : Nat → Prop} (h : ∃ k, p k) : p (leastOf p) ∧ ∀ j, p j → leastOf p ≤ j := by
  have h' : ∃ k, p k ∧ ∀ j, p j → k ≤ j := by
    obtain ⟨k, hk⟩ := h
    induction k using Nat.strongRecOn with
    | _ k ih =>
      by_cases hm : ∃ j, j < k ∧ p j
      · obtain ⟨j, hj, hp⟩ := hm; exact ih j hj hp
      · exact ⟨k, hk, fun j hj => by
          rcases Nat.lt_or_ge j k with hlt | hge
          · exact (hm ⟨j, hlt, hj⟩).elim
          · exact hge⟩
  unfold leastOf
  rw [dif_pos h']
  exact h'.choose_spec

/-- **What is shown of abstract states holds of the code.** -/
theorem swi_sound {P : Program} {cx : Cx} {drop : List Nat → List Nat} : ∀ (c : Code) (ir : Ir), comp P cx.n drop c = some ir →
    ∀ (s : St) (Q : Exit → St → Prop), SWI P cx.G ir s Q → ∀ ι ow a w, Models cx ι ow s a w →
      c.wp P (fun e a w => ∃ ι ow s', Models cx ι ow s' a w ∧ Q e s') a w := by
  intro c
  induction c with
  | skip => intro ir hc s Q h ι ow a w hm; cases hc; exact wp_skip ⟨ι, ow, s, hm, h⟩
  | region id ops draw =>
    intro ir hc s Q h ι ow a w hm
    simp only [comp] at hc
    split at hc
    · cases hc
    · rename_i l hl
      cases draw with
      | true =>
        simp only [if_true] at hc
        split at hc
        · rename_i hok
          cases hc
          simp only [Bool.and_eq_true] at hok
          simp only [SWI] at h
          exact wp_draw (K := fun s' => Q .normal (s'.tidy (drop (l.filterMap IOpr.d)))) hok.1 hl hok.2
            (fun ι ow s a w hk hm => by obtain ⟨ι', ow', hm'⟩ := Wk.tidy s (drop (l.filterMap IOpr.d)) cx ι ow a w hm; exact ⟨ι', ow', _, hm', hk⟩) h.1 h.2 hm
        · cases hc
      | false =>
        simp only [Bool.false_eq_true, if_false, Option.some.injEq] at hc
        subst hc
        refine wp_region ?_
        rw [List.range_eq_range']
        have := wpOps_of (P := P) (cx := cx) (ops := ops) (Q := fun e a w => ∃ ι ow s', Models cx ι ow s' a w ∧ Q e s') (K := fun s' => Q .normal (s'.tidy (drop (l.filterMap IOpr.d))))
          (fun ι ow s a w hk hm => by obtain ⟨ι', ow', hm'⟩ := Wk.tidy s (drop (l.filterMap IOpr.d)) cx ι ow a w hm; exact ⟨ι', ow', _, hm', hk⟩) ops.toList l 0 (fun j => by simp) hl ι ow s a w h hm
        simpa using this
  | seq x y ihx ihy =>
    intro ir hc s Q h ι ow a w hm
    simp only [comp] at hc
    split at hc
    · rename_i ix iy hx hy
      cases hc
      refine wp_seq (wp_mono (ihx ix hx s _ h ι ow a w hm) fun e a' w' ⟨ι', ow', s', hm', hq⟩ => ?_)
      cases e with
      | normal =>
        obtain ⟨s'', hwk, hq⟩ := hq
        obtain ⟨ι'', ow'', hm''⟩ := hwk cx ι' ow' a' w' hm'
        exact ihy iy hy s'' Q hq ι'' ow'' a' w' hm''
      | exit id => exact ⟨ι', ow', s', hm', hq⟩
      | goto l => exact ⟨ι', ow', s', hm', hq⟩
      | ret => exact ⟨ι', ow', s', hm', hq⟩
      | panic ch => exact ⟨ι', ow', s', hm', hq⟩
      | outgrown => exact ⟨ι', ow', s', hm', hq⟩
    · cases hc
  | cond c x y ihx ihy =>
    intro ir hc s Q h ι ow a w hm
    simp only [comp] at hc
    split at hc
    · rename_i ix iy hx hy
      cases hc
      simp only [SWI] at h
      split at h
      · rename_i fr b hb
        have he := eval_rep hm c
        rw [hb] at he
        have he := rep_v he
        refine wp_cond_split he (fun ht => ?_) (fun ht => ?_)
        · obtain ⟨s', h1, h2⟩ := h.1 ht
          obtain ⟨ι', ow', hm'⟩ := h1 cx ι ow a w hm
          exact ihx ix hx s' Q h2 ι' ow' a w hm'
        · obtain ⟨s', h1, h2⟩ := h.2 ht
          obtain ⟨ι', ow', hm'⟩ := h1 cx ι ow a w hm
          exact ihy iy hy s' Q h2 ι' ow' a w hm'
      · exact h.elim
    · cases hc
  | block id x ih =>
    intro ir hc s Q h ι ow a w hm
    simp only [comp, Option.map_eq_some_iff] at hc
    obtain ⟨ix, hx, rfl⟩ := hc
    refine wp_block (wp_mono (ih ix hx s _ h ι ow a w hm) fun e a' w' ⟨ι', ow', s', hm', hq⟩ => ?_)
    cases e with
    | exit j =>
      simp only [Exit.inBlock]
      split
      · rename_i he; simp only [he, if_true] at hq; exact ⟨ι', ow', s', hm', hq⟩
      · rename_i he; simp only [he, if_false] at hq; exact ⟨ι', ow', s', hm', hq⟩
    | normal => exact ⟨ι', ow', s', hm', hq⟩
    | goto l => exact ⟨ι', ow', s', hm', hq⟩
    | ret => exact ⟨ι', ow', s', hm', hq⟩
    | panic ch => exact ⟨ι', ow', s', hm', hq⟩
    | outgrown => exact ⟨ι', ow', s', hm', hq⟩
  | loop x ih =>
    intro ir hc s Q h ι ow a w hm
    simp only [comp, Option.map_eq_some_iff] at hc
    obtain ⟨ix, hx, rfl⟩ := hc
    simp only [SWI] at h
    obtain ⟨σ, st, inv, μ, x0, hx0, hle0, hround⟩ := h
    let p : Act → World → Nat → Prop := fun a w k => ∃ x ι ow, inv x ∧ Models cx ι ow (st x) a w ∧ μ x = k
    obtain ⟨ι0, ow0, hm0⟩ := hle0 cx ι ow a w hm
    refine wp_loop (I := fun a w => ∃ k, p a w k) (μ := fun a w => leastOf (p a w)) ⟨_, x0, _, _, hx0, hm0, rfl⟩ ?_
    intro a w hI
    obtain ⟨⟨y, ι', ow', hy, hmy, hk⟩, hmin⟩ := leastOf_spec hI
    obtain ⟨s1, hw1, hr1⟩ := hround y hy
    obtain ⟨ι1, ow1, hm1⟩ := hw1 cx ι' ow' a w hmy
    refine wp_mono (ih ix hx s1 _ hr1 ι1 ow1 a w hm1) fun e a' w' ⟨ι'', ow'', s', hm', hq⟩ => ?_
    cases e with
    | normal =>
      obtain ⟨x', hx', hlt, hle⟩ := hq
      obtain ⟨ι3, ow3, hm3⟩ := hle cx ι'' ow'' a' w' hm'
      have hp : p a' w' (μ x') := ⟨x', _, _, hx', hm3, rfl⟩
      refine ⟨⟨_, hp⟩, ?_⟩
      have := (leastOf_spec ⟨_, hp⟩).2 _ hp
      show leastOf (p a' w') < leastOf (p a w)
      omega
    | exit j => exact ⟨ι'', ow'', s', hm', hq⟩
    | goto l => exact ⟨ι'', ow'', s', hm', hq⟩
    | ret => exact ⟨ι'', ow'', s', hm', hq⟩
    | panic ch => exact ⟨ι'', ow'', s', hm', hq⟩
    | outgrown => exact ⟨ι'', ow'', s', hm', hq⟩
  | exit id => intro ir hc s Q h ι ow a w hm; cases hc; exact wp_exit ⟨ι, ow, s, hm, h⟩
  | ret => intro ir hc s Q h ι ow a w hm; cases hc; exact wp_ret ⟨ι, ow, s, hm, h⟩
  | _ => intro ir hc; simp [comp] at hc
end Go.Gw
