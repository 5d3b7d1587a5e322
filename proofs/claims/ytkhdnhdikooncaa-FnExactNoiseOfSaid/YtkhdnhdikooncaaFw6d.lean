/- A region that draws its order: one walk in the order of the text serves every order; with no condition. -/
import Derived.Test.YtkhdnhdikooncaaFw5
namespace Go.Fw
open Go
set_option linter.unusedVariables false
set_option linter.unusedSimpArgs false
set_option linter.unnecessarySimpa false

mutual
/-- The objects that a value speaks of. -/
def AV.ids : AV → List Nat
  | .p _ _ => []
  | .own i => [i]
  | .adr i _ => [i]
  | .elt i _ _ _ => [i]
  | .ag cs => AV.idss cs
  | .tp cs => AV.idss cs
  | .cl _ a b => AV.idss a ++ AV.idss b
def AV.idss : List AV → List Nat
  | [] => []
  | c :: cs => AV.ids c ++ AV.idss cs
end

mutual
theorem view_congr {ob ob' : Nat → Option Ob} : ∀ {c : AV}, (∀ i, i ∈ c.ids → ob' i = ob i) → c.view ob' = c.view ob
  | .p _ (.v _), _ => rfl
  | .p _ (.sl _ _ _ _), _ => rfl
  | .p _ (.pp _ _), _ => rfl
  | .p _ (.cl _ _ _), _ => rfl
  | .p _ .any, _ => rfl
  | .own i, h => by simp only [AV.view, h i (by simp [AV.ids])]
  | .adr _ _, _ => rfl
  | .elt _ _ _ _, _ => rfl
  | .ag cs, h => by simp only [AV.view]; rw [views_congr (cs := cs) fun i hi => h i (by simpa [AV.ids] using hi)]
  | .tp cs, h => by simp only [AV.view]; rw [views_congr (cs := cs) fun i hi => h i (by simpa [AV.ids] using hi)]
  | .cl _ a b, h => by
    simp only [AV.view]
    rw [views_congr (cs := a) fun i hi => h i (by simp [AV.ids, hi]), views_congr (cs := b) fun i hi => h i (by simp [AV.ids, hi])]
theorem views_congr {ob ob' : Nat → Option Ob} : ∀ {cs : List AV}, (∀ i, i ∈ AV.idss cs → ob' i = ob i) → AV.views ob' cs = AV.views ob cs
  | [], _ => rfl
  | c :: cs, h => by
    simp only [AV.views]
    rw [view_congr (c := c) fun i hi => h i (by simp [AV.idss, hi]), views_congr (cs := cs) fun i hi => h i (by simp [AV.idss, hi])]
end

theorem idss_append : ∀ (a b : List AV), AV.idss (a ++ b) = AV.idss a ++ AV.idss b
  | [], b => rfl
  | c :: a, b => by simp [AV.idss, idss_append a b]

theorem idss_map_p {fr : Bool} : ∀ (l : List PV), AV.idss (l.map (AV.p fr)) = []
  | [] => rfl
  | c :: l => by simp [AV.idss, AV.ids, idss_map_p l]

def IOp.opds : IOp → List Operand
  | .mov x => [x]
  | .pick c a b => [c, a, b]
  | .bin _ x y => [x, y]
  | .binB _ x y => [x, y]
  | .un _ x => [x]
  | .box _ x => [x]
  | .alloc _ => []
  | .build _ ps => ps.map fun p => p.2.2
  | .mkSl _ _ _ _ ps => ps.map fun p => p.2
  | .load _ _ x => [x]
  | .store _ x y => [x, y]
  | .fadr _ x => [x]
  | .fval _ _ _ x => [x]
  | .idx _ x i => [x, i]
  | .idxS x i => [x, i]
  | .len x => [x]
  | .lenS x => [x]
  | .ext x _ => [x]
  | .mkFn _ a b => a ++ b
  | .mkSlc _ _ _ a b => [a, b]
  | .slc _ x lo hi => [x] ++ lo.toList ++ hi.toList
  | .slcS x lo hi => [x] ++ lo.toList ++ hi.toList
  | .isNil _ x => [x]
  | .app _ _ _ a b => [a, b]
  | .conv _ x => [x]
  | .nilck x => [x]
  | .call _ args => args
  | .callv x args => x :: args

def tmpOf : Operand → Option Nat
  | .tmp t => some t
  | _ => none

def IOp.reads (op : IOp) : List Nat := op.opds.filterMap tmpOf

/-- Does the operation look at objects? -/
def IOp.isR : IOp → Bool
  | .mov _ => false
  | .pick _ _ _ => false
  | .bin _ _ _ => false
  | .binB _ _ _ => false
  | .un _ _ => false
  | .fadr _ _ => false
  | .ext _ _ => false
  | .mkFn _ _ _ => false
  | .lenS _ => false
  | _ => true

/-- The objects that it looks at. -/
def IOp.rd (G : List (Nat × PV)) (s : St) (op : IOp) : List Nat := if op.isR then AV.idss (op.opds.map (opd G s)) else []

theorem opd_congr {G : List (Nat × PV)} {s s' : St} {op : IOp} (hr : ∀ t, t ∈ op.reads → s'.get t = s.get t) : ∀ x, x ∈ op.opds → opd G s' x = opd G s x := by
  intro x hx
  cases x with
  | tmp t => exact hr t (by simp only [IOp.reads, List.mem_filterMap]; exact ⟨_, hx, rfl⟩)
  | _ => rfl

theorem map_opd_congr {G : List (Nat × PV)} {s s' : St} {l : List Operand} (h : ∀ x, x ∈ l → opd G s' x = opd G s x) : l.map (opd G s') = l.map (opd G s) :=
  List.map_congr_left h

theorem AQ_congr {P : Program} {G : List (Nat × PV)} {det : Bool} {s s' : St} {K : AV → Prop} {op : IOp} (hr : ∀ t, t ∈ op.reads → s'.get t = s.get t)
    (ho : ∀ i, i ∈ op.rd G s → s'.obj i = s.obj i) (h : AQ P G det s K op) : AQ P G det s' K op := by
  have hx := opd_congr (G := G) hr
  cases op with
  | mov x => simpa only [AQ, hx x (by simp [IOp.opds])] using h
  | pick c a b => simpa only [AQ, hx c (by simp [IOp.opds]), hx a (by simp [IOp.opds]), hx b (by simp [IOp.opds])] using h
  | bin op x y => simpa only [AQ, hx x (by simp [IOp.opds]), hx y (by simp [IOp.opds])] using h
  | binB op x y => simpa only [AQ, hx x (by simp [IOp.opds]), hx y (by simp [IOp.opds])] using h
  | un op x => simpa only [AQ, hx x (by simp [IOp.opds])] using h
  | fadr off x => simpa only [AQ, hx x (by simp [IOp.opds])] using h
  | ext x i => simpa only [AQ, hx x (by simp [IOp.opds])] using h
  | lenS x => simpa only [AQ, hx x (by simp [IOp.opds])] using h
  | mkFn f a b =>
    simp only [AQ] at h ⊢
    rw [map_opd_congr (l := a) fun x hm => hx x (by simp [IOp.opds, hm]), map_opd_congr (l := b) fun x hm => hx x (by simp [IOp.opds, hm])]
    exact h
  | load agg n x =>
    simp only [AQ, hx x (by simp [IOp.opds])] at h ⊢
    cases he : opd G s x with
    | adr i off => simp only [he] at h ⊢; rw [ho i (by simp [IOp.rd, IOp.isR, IOp.opds, he, AV.idss, AV.ids])]; exact h
    | elt i esz k off => simp only [he] at h ⊢; rw [ho i (by simp [IOp.rd, IOp.isR, IOp.opds, he, AV.idss, AV.ids])]; exact h
    | p fr c => rw [he] at h; cases c <;> exact h
    | _ => rw [he] at h; exact h
  | idx esz x i =>
    simp only [AQ, hx x (by simp [IOp.opds]), hx i (by simp [IOp.opds])] at h ⊢
    split at h
    · cases he : opd G s x with
      | own j => simp only [he] at h ⊢; rw [ho j (by simp [IOp.rd, IOp.isR, IOp.opds, he, AV.idss, AV.ids])]; exact h
      | p fr c => rw [he] at h; cases c <;> exact h
      | _ => rw [he] at h; exact h
    · exact h.elim
  | len x =>
    simp only [AQ, hx x (by simp [IOp.opds])] at h ⊢
    cases he : opd G s x with
    | own j => simp only [he] at h ⊢; rw [ho j (by simp [IOp.rd, IOp.isR, IOp.opds, he, AV.idss, AV.ids])]; exact h
    | p fr c =>
      rw [he] at h
      cases c with
      | v y => cases y <;> exact h
      | _ => exact h
    | _ => rw [he] at h; exact h
  | call f args =>
    simp only [AQ] at h ⊢
    have e := map_opd_congr (G := G) (s := s) (s' := s') (l := args) fun x hm => hx x (by simp [IOp.opds, hm])
    rw [e, views_congr (ob := s.obj) (ob' := s'.obj) fun i hi => ho i (by simpa [IOp.rd, IOp.isR, IOp.opds] using hi)]
    exact h
  | callv x args =>
    simp only [AQ, hx x (by simp [IOp.opds])] at h ⊢
    have e := map_opd_congr (G := G) (s := s) (s' := s') (l := args) fun x hm => hx x (by simp [IOp.opds, hm])
    cases he : opd G s x with
    | cl f a b =>
      simp only [he] at h ⊢
      rw [e, views_congr (ob := s.obj) (ob' := s'.obj) fun i hi => ho i ?_]
      · exact h
      · simp only [idss_append, List.mem_append] at hi
        simp only [IOp.rd, IOp.isR, IOp.opds, if_true, List.map_cons, AV.idss, he, AV.ids, List.mem_append]
        rcases hi with (hi | hi) | hi
        · exact .inl (.inl hi)
        · exact .inr hi
        · exact .inl (.inr hi)
    | p fr c =>
      simp only [he] at h ⊢
      cases c with
      | cl f a b =>
        simp only at h ⊢
        rw [e, views_congr (ob := s.obj) (ob' := s'.obj) fun i hi => ho i ?_]
        · exact h
        · simp only [idss_append, List.mem_append, idss_map_p, List.not_mem_nil, false_or, or_false] at hi
          simp only [IOp.rd, IOp.isR, IOp.opds, if_true, List.map_cons, AV.idss, he, AV.ids, List.mem_append]
          exact .inr hi
      | _ => exact h
    | _ => simpa only [he] using h
  | _ => exact h

theorem binI_det {op : BinOp} {k k' : IntKind} {a b : Int} {K : Value → Prop} (h : binI op k a k' b K) : ∃ v, K v ∧ binI op k a k' b (fun x => x = v) := by
  cases op <;> simp only [binI] at h ⊢
  case shl => exact ⟨_, h.2, h.1, rfl⟩
  case shr => exact ⟨_, h.2, h.1, rfl⟩
  case quo => exact ⟨_, h.2.2, h.1, h.2.1, rfl⟩
  case rem => exact ⟨_, h.2.2, h.1, h.2.1, rfl⟩
  all_goals exact ⟨_, h.2, h.1, rfl⟩

theorem binS_det {op : BinOp} {a b : ByteArray} {K : Value → Prop} (h : binS op a b K) : ∃ v, K v ∧ binS op a b (fun x => x = v) := by
  cases op <;> simp only [binS] at h ⊢
  case add => exact ⟨_, h.2, h.1, rfl⟩
  all_goals first
    | exact h.elim
    | exact ⟨_, h, rfl⟩

theorem ACall_det {P : Program} {G : List (Nat × PV)} {f : FuncId} {args : List AV} {l : Bool} {K : AV → Prop} (h : ACall P G true f args l K) : ∃ c, K c ∧ ACall P G true f args l (fun x => x = c) := by
  obtain ⟨h0, R, h1, h2, h3⟩ := h
  obtain ⟨r, hr, h4⟩ := h2 rfl
  exact ⟨r, (h3 r hr).2, h0, R, h1, fun _ => ⟨r, hr, h4⟩, fun r' hr' => ⟨(h3 r' hr').1, h4 r' hr'⟩⟩

theorem binI_mono {op : BinOp} {k k' : IntKind} {a b : Int} {K K' : Value → Prop} (hk : ∀ v, K v → K' v) (h : binI op k a k' b K) : binI op k a k' b K' := by
  cases op <;> simp only [binI] at h ⊢
  case shl => exact ⟨h.1, hk _ h.2⟩
  case shr => exact ⟨h.1, hk _ h.2⟩
  case quo => exact ⟨h.1, h.2.1, hk _ h.2.2⟩
  case rem => exact ⟨h.1, h.2.1, hk _ h.2.2⟩
  all_goals exact ⟨h.1, hk _ h.2⟩

theorem binS_mono {op : BinOp} {a b : ByteArray} {K K' : Value → Prop} (hk : ∀ v, K v → K' v) (h : binS op a b K) : binS op a b K' := by
  cases op <;> simp only [binS] at h ⊢
  case add => exact ⟨h.1, hk _ h.2⟩
  all_goals first
    | exact h.elim
    | exact hk _ h

theorem AQ_mono {P : Program} {G : List (Nat × PV)} {det : Bool} {s : St} {K K' : AV → Prop} {op : IOp} (hk : ∀ c, K c → K' c) (h : AQ P G det s K op) : AQ P G det s K' op := by
  have hcall : ∀ {f args l}, ACall P G det f args l K → ACall P G det f args l K' := fun ⟨h0, R, h1, h2, h3⟩ => ⟨h0, R, h1, h2, fun r hr => ⟨(h3 r hr).1, hk _ (h3 r hr).2⟩⟩
  cases op <;> simp only [AQ] at h ⊢
  case mov => exact hk _ h
  case mkFn => exact hk _ h
  case call => exact hcall h
  case callv => split at h <;> first | exact hcall h | exact h.elim
  case pick =>
    split at h
    · exact ⟨fun e => hk _ (h.1 e), fun e => hk _ (h.2 e)⟩
    · exact h.elim
  case bin =>
    split at h
    · exact binI_mono (fun x e => hk _ e) h
    · exact binS_mono (fun x e => hk _ e) h
    · exact h.elim
  case load =>
    split at h
    · refine ⟨h.1, ?_⟩
      have h2 := h.2
      split at h2
      · rename_i he; rw [if_pos he]; exact hk _ h2
      · rename_i he; rw [if_neg he]; exact ⟨h2.1, hk _ h2.2⟩
    · split at h
      · refine ⟨h.1, ?_⟩
        have h2 := h.2
        split at h2
        · rename_i he; rw [if_pos he]; exact hk _ h2
        · rename_i he; rw [if_neg he]; exact ⟨h2.1, hk _ h2.2⟩
      · exact h.elim
    · split at h
      · refine ⟨h.1, h.2.1, h.2.2.1, ?_⟩
        have h2 := h.2.2.2
        split at h2
        · rename_i he; rw [if_pos he]; exact hk _ h2
        · rename_i he; rw [if_neg he]; exact ⟨h2.1, hk _ h2.2⟩
      · exact h.elim
    · exact h.elim
  case idx =>
    split at h
    · split at h
      · exact ⟨h.1, h.2.1, h.2.2.1, hk _ h.2.2.2⟩
      · split at h
        · exact ⟨h.1, h.2.1, h.2.2.1, hk _ h.2.2.2⟩
        · exact h.elim
      · exact h.elim
    · exact h.elim
  all_goals first
    | exact h.elim
    | (split at h <;> first
        | exact hk _ h
        | exact h.elim
        | (split at h <;> first
            | exact hk _ h
            | exact h.elim))

theorem AQ_det {P : Program} {G : List (Nat × PV)} {s : St} {K : AV → Prop} {op : IOp} (h : AQ P G true s K op) : ∃ c, K c ∧ AQ P G true s (fun x => x = c) op := by
  cases op <;> simp only [AQ] at h ⊢
  case mov => exact ⟨_, h, rfl⟩
  case mkFn => exact ⟨_, h, rfl⟩
  case call => exact ACall_det h
  case callv =>
    split at h
    · exact ACall_det h
    · exact ACall_det h
    · exact h.elim
  case pick =>
    split at h
    · rename_i fr t hc
      cases t with
      | true => exact ⟨_, h.1 rfl, fun _ => rfl, fun e => by cases e⟩
      | false => exact ⟨_, h.2 rfl, (fun e => by cases e), fun _ => rfl⟩
    · exact h.elim
  case bin =>
    split at h
    · obtain ⟨v, h1, h2⟩ := binI_det h
      exact ⟨_, h1, binI_mono (fun x e => by rw [e]) h2⟩
    · obtain ⟨v, h1, h2⟩ := binS_det h
      exact ⟨_, h1, binS_mono (fun x e => by rw [e]) h2⟩
    · exact h.elim
  case load =>
    split at h
    · obtain ⟨h1, h2⟩ := h
      split at h2
      · rename_i he; exact ⟨_, h2, h1, by rw [if_pos he]⟩
      · rename_i he; exact ⟨_, h2.2, h1, by rw [if_neg he]; exact ⟨h2.1, rfl⟩⟩
    · split at h
      · obtain ⟨h1, h2⟩ := h
        split at h2
        · rename_i he; exact ⟨_, h2, h1, by rw [if_pos he]⟩
        · rename_i he; exact ⟨_, h2.2, h1, by rw [if_neg he]; exact ⟨h2.1, rfl⟩⟩
      · exact h.elim
    · split at h
      · obtain ⟨h0, h1, h1', h2⟩ := h
        split at h2
        · rename_i he; exact ⟨_, h2, h0, h1, h1', by rw [if_pos he]⟩
        · rename_i he; exact ⟨_, h2.2, h0, h1, h1', by rw [if_neg he]; exact ⟨h2.1, rfl⟩⟩
      · exact h.elim
    · exact h.elim
  case idx =>
    split at h
    · split at h
      · exact ⟨_, h.2.2.2, h.1, h.2.1, h.2.2.1, rfl⟩
      · split at h
        · exact ⟨_, h.2.2.2, h.1, h.2.1, h.2.2.1, rfl⟩
        · exact h.elim
      · exact h.elim
    · exact h.elim
  all_goals first
    | exact h.elim
    | (split at h <;> first
        | exact ⟨_, h, rfl⟩
        | exact h.elim
        | (split at h <;> first
            | exact ⟨_, h, rfl⟩
            | exact h.elim))

/-- The name of the object that it makes. -/
def IOp.fresh (d : Nat) : IOp → List Nat
  | .box _ _ => [d]
  | .alloc _ => [d]
  | _ => []

/-- What came of an operation in the order of the text. -/
structure Tr where
  c : AV
  u : List (Nat × Option Ob)
  rd : List Nat

def IOpr.reads (p : IOpr) : List Nat := p.op.reads ++ (match p.g with | some (t, _) => [t] | none => [])
def IOpr.fresh (p : IOpr) : List Nat := p.op.fresh (p.d.getD 0)

/-- What object i is behind changes. -/
def updO (ob : Nat → Option Ob) : List (Nat × Option Ob) → Nat → Option Ob
  | [], i => ob i
  | (k, o) :: u, i => updO (fun j => if k = j then o else ob j) u i

theorem obj_upd (u : List (Nat × Option Ob)) : ∀ (s : St) (i : Nat), (s.upd u).obj i = updO s.obj u i := by
  induction u with
  | nil => intro s i; rfl
  | cons x u ih =>
    intro s i
    obtain ⟨k, o⟩ := x
    cases o with
    | none =>
      simp only [St.upd, updO]
      rw [ih]
      congr 1
      funext j
      rw [St.obj_delOb]
    | some o =>
      simp only [St.upd, updO]
      rw [ih]
      congr 1
      funext j
      rw [St.obj_setOb]

theorem get_upd (u : List (Nat × Option Ob)) : ∀ (s : St) (t : Nat), (s.upd u).get t = s.get t := by
  induction u with
  | nil => intro s t; rfl
  | cons x u ih =>
    intro s t
    obtain ⟨k, o⟩ := x
    cases o <;> simp only [St.upd] <;> rw [ih] <;> rfl

theorem updO_congr (u : List (Nat × Option Ob)) : ∀ (ob ob' : Nat → Option Ob) (i : Nat), ob i = ob' i → updO ob u i = updO ob' u i := by
  induction u with
  | nil => intro ob ob' i h; exact h
  | cons x u ih =>
    intro ob ob' i h
    obtain ⟨k, o⟩ := x
    simp only [updO]
    refine ih _ _ i ?_
    by_cases e : k = i <;> simp [e, h]

theorem updO_out (u : List (Nat × Option Ob)) : ∀ (ob : Nat → Option Ob) (i : Nat), i ∉ u.map Prod.fst → updO ob u i = ob i := by
  induction u with
  | nil => intro ob i h; rfl
  | cons x u ih =>
    intro ob i h
    obtain ⟨k, o⟩ := x
    simp only [List.map_cons, List.mem_cons, not_or] at h
    simp only [updO]
    rw [ih _ i h.2]
    have : k ≠ i := fun e => h.1 e.symm
    simp [this]

theorem updO_in (u : List (Nat × Option Ob)) : ∀ (ob ob' : Nat → Option Ob) (i : Nat), i ∈ u.map Prod.fst → updO ob u i = updO ob' u i := by
  induction u with
  | nil => intro ob ob' i h; simp at h
  | cons x u ih =>
    intro ob ob' i h
    obtain ⟨k, o⟩ := x
    simp only [updO]
    by_cases e : i ∈ u.map Prod.fst
    · exact ih _ _ i e
    · simp only [List.map_cons, List.mem_cons] at h
      have : i = k := h.resolve_right e
      subst this
      rw [updO_out _ _ _ e, updO_out _ _ _ e]
      simp

/-- Changes of other objects commute. -/
theorem updO_comm (u u' : List (Nat × Option Ob)) (ob : Nat → Option Ob) (i : Nat) (h : ∀ k, k ∈ u.map Prod.fst → k ∉ u'.map Prod.fst) : updO (updO ob u) u' i = updO (updO ob u') u i := by
  by_cases h1 : i ∈ u.map Prod.fst
  · have h2 := h i h1
    rw [updO_out u' _ i h2]
    exact updO_in u _ _ i h1
  · by_cases h2 : i ∈ u'.map Prod.fst
    · rw [updO_out u _ i h1]
      exact updO_in u' _ _ i h2
    · rw [updO_out u' _ i h2, updO_out u _ i h1, updO_out u _ i h1, updO_out u' _ i h2]

/-- The state behind an operation. -/
def Aft (p : IOpr) (r : Tr) (s s' : St) : Prop :=
  (∀ t, s'.get t = if p.d = some t then r.c else s.get t) ∧ (∀ i, s'.obj i = updO s.obj r.u i)

/-- What an operation comes to. -/
def Core (P : Program) (G : List (Nat × PV)) (s : St) (d : Nat) (c : AV) (u : List (Nat × Option Ob)) (op : IOp) : Prop :=
  match op.isW with
  | true => AW St.noid G s d (fun c' u' => c' = c ∧ u' = u) op
  | false => u = [] ∧ AQ P G true s (fun c' => c' = c) op

inductive Eff (P : Program) (G : List (Nat × PV)) (p : IOpr) (r : Tr) (s : St) : Prop
  | skip (t : Nat) (want : Bool) (v : Value) (hg : p.g = some (t, want)) (hv : s.get t = .p true (.v v)) (hb : asB v ≠ some want) (hc : r.c = .p true (.v undef)) (hw : r.u = [])
  | run (hg : ∀ t want, p.g = some (t, want) → s.get t = .p true (.v (.bool want)))
      (hrd : ∀ i, i ∈ p.op.rd G s → i ∈ r.rd) (h : Core P G s (p.d.getD 0) r.c r.u p.op)

theorem get_putD (s : St) (d : Option Nat) (c : AV) (t : Nat) : (s.putD d c).get t = if d = some t then c else s.get t := by
  cases d with
  | none => simp [St.putD]
  | some u => simp [St.putD, St.get_put]

theorem obj_putD (s : St) (d : Option Nat) (c : AV) (i : Nat) : (s.putD d c).obj i = s.obj i := by cases d <;> rfl

theorem aft_upd (p : IOpr) (r : Tr) (s : St) : Aft p r s ((s.upd r.u).putD p.d r.c) :=
  ⟨fun t => by rw [get_putD, get_upd], fun i => by rw [obj_putD, obj_upd]⟩

theorem rd_congr {G : List (Nat × PV)} {s s' : St} {op : IOp} (hr : ∀ t, t ∈ op.reads → s'.get t = s.get t) : op.rd G s' = op.rd G s := by
  unfold IOp.rd
  split
  · rw [map_opd_congr (G := G) (l := op.opds) (opd_congr hr)]
  · rfl

theorem one_congr {ob ob' : Nat → Option Ob} {c : AV} (h : ∀ i, i ∈ c.ids → ob' i = ob i) : c.one ob' = c.one ob := by
  cases c <;> simp only [AV.one]
  case own i => rw [h i (by simp [AV.ids])]

theorem idss_mem {cs : List AV} {c : AV} {i : Nat} (hc : c ∈ cs) (hi : i ∈ c.ids) : i ∈ AV.idss cs := by
  induction cs with
  | nil => cases hc
  | cons d cs ih =>
    simp only [AV.idss, List.mem_append]
    rcases List.mem_cons.1 hc with rfl | hc
    · exact .inl hi
    · exact .inr (ih hc)

theorem cells_ids {c : AV} {e : AV} {i : Nat} (he : e ∈ c.cells) (hi : i ∈ e.ids) : i ∈ c.ids := by
  have hone : c.cells = [c] → i ∈ c.ids := by
    intro h
    rw [h] at he
    have := List.mem_singleton.1 he
    subst this
    exact hi
  cases c <;> first
    | exact hone rfl
    | (simp only [AV.cells, AV.ids] at *; exact idss_mem he hi)

theorem AW_congr {G : List (Nat × PV)} {s s' : St} {d : Nat} {K : AV → List (Nat × Option Ob) → Prop} {op : IOp} (hr : ∀ t, t ∈ op.reads → s'.get t = s.get t)
    (ho : ∀ i, i ∈ op.rd G s → s'.obj i = s.obj i) (hn : ∀ e, e ∈ op.fresh d → s'.noid e) (h : AW St.noid G s d K op) : AW St.noid G s' d K op := by
  have hx := opd_congr (G := G) hr
  cases op <;> simp only [AW] at h ⊢
  case box n x =>
    have e := hx x (by simp [IOp.opds])
    have hrd' : ∀ i, i ∈ (opd G s x).ids → s'.obj i = s.obj i := fun i hi => ho i (by simp [IOp.rd, IOp.isR, IOp.opds, AV.idss, hi])
    obtain ⟨h1, h2, h3, h4⟩ := h
    rw [e]
    refine ⟨hn _ (by simp [IOp.fresh]), h2, ?_, h4⟩
    rw [List.all_eq_true] at h3 ⊢
    intro c hc
    rw [one_congr (ob := s.obj) fun i hi => hrd' i (cells_ids hc hi)]
    exact h3 c hc
  case alloc z => exact ⟨hn _ (by simp [IOp.fresh]), h.2⟩

theorem AW_det {G : List (Nat × PV)} {s : St} {d : Nat} {K : AV → List (Nat × Option Ob) → Prop} {op : IOp} (h : AW St.noid G s d K op) :
    ∃ c u, K c u ∧ AW St.noid G s d (fun c' u' => c' = c ∧ u' = u) op := by
  cases op <;> simp only [AW] at h ⊢
  case box n x => exact ⟨_, _, h.2.2.2, h.1, h.2.1, h.2.2.1, rfl, rfl⟩
  case alloc z => exact ⟨_, _, h.2, h.1, rfl, rfl⟩

theorem Eff.loc {P : Program} {G : List (Nat × PV)} {p : IOpr} {r : Tr} {s s' : St} (h : Eff P G p r s) (hr : ∀ t, t ∈ p.reads → s'.get t = s.get t)
    (ho : ∀ i, i ∈ r.rd → s'.obj i = s.obj i) (hn : ∀ e, e ∈ p.fresh → s'.noid e) : Eff P G p r s' := by
  cases h with
  | skip t want v hg hv hb hc hwr =>
    exact .skip t want v hg (by rw [hr t (by simp [IOpr.reads, hg]), hv]) hb hc hwr
  | run hg hrd h =>
    have hr' : ∀ t, t ∈ p.op.reads → s'.get t = s.get t := fun t ht => hr t (by simp [IOpr.reads, ht])
    refine .run (fun t want e => by rw [hr t (by simp [IOpr.reads, e]), hg t want e]) (fun i hi => hrd i (by rwa [rd_congr hr'] at hi)) ?_
    unfold Core at *
    split
    · rename_i hwb
      simp only [hwb] at h
      exact AW_congr hr' (fun i hi => ho i (hrd i hi)) hn h
    · rename_i hwb
      simp only [hwb] at h
      exact ⟨h.1, AQ_congr hr' (fun i hi => ho i (hrd i hi)) h.2⟩

/-! ### Which operations come before which -/
inductive Anc (ops : Array Oper) : Nat → Nat → Prop
  | one {j : Nat} {o : Oper} {e : Edge} (ho : ops[j]? = some o) (he : e ∈ o.after) (hb : Region.binds .any e = true) : Anc ops e.on j
  | more {l j : Nat} {o : Oper} {e : Edge} (ho : ops[j]? = some o) (he : e ∈ o.after) (hb : Region.binds .any e = true) (h : Anc ops l e.on) : Anc ops l j

def Closed (ops : Array Oper) (listed : Array Bool) : Prop :=
  ∀ (j : Nat) (o : Oper), ops[j]? = some o → listed.getD j false = true → ∀ e ∈ o.after, Region.binds .any e = true → listed.getD e.on false = true

theorem anc_listed {ops : Array Oper} {listed : Array Bool} (hc : Closed ops listed) {l j : Nat} (h : Anc ops l j) : listed.getD j false = true ∨ j ∈ Region.ready .any ops listed → listed.getD l false = true := by
  induction h with
  | one ho he hb =>
    intro hj
    rcases hj with hj | hj
    · exact hc _ _ ho hj _ he hb
    · obtain ⟨_, o', ho', hall⟩ := mem_ready.1 hj
      rw [ho] at ho'
      cases ho'
      exact hall _ he hb
  | more ho he hb _ ih =>
    intro hj
    refine ih (.inl ?_)
    rcases hj with hj | hj
    · exact hc _ _ ho hj _ he hb
    · obtain ⟨_, o', ho', hall⟩ := mem_ready.1 hj
      rw [ho] at ho'
      cases ho'
      exact hall _ he hb

theorem closed_set {ops : Array Oper} {listed : Array Bool} (hc : Closed ops listed) {k : Nat} (hk : k ∈ Region.ready .any ops listed) : Closed ops (listed.setIfInBounds k true) := by
  obtain ⟨h0, o', ho', hall⟩ := mem_ready.1 hk
  have mono : ∀ i, listed.getD i false = true → (listed.setIfInBounds k true).getD i false = true := by
    intro i hi
    simp only [Array.getD_eq_getD_getElem?, Array.getElem?_setIfInBounds] at hi ⊢
    split
    · split
      · rfl
      · rename_i h1 h2; subst h1; simp [Array.getElem?_eq_none (Nat.le_of_not_lt h2)] at hi
    · exact hi
  intro j o ho hj e he hb
  by_cases hjk : j = k
  · subst hjk
    rw [ho] at ho'
    cases ho'
    exact mono _ (hall e he hb)
  · refine mono _ (hc j o ho ?_ e he hb)
    simp only [Array.getD_eq_getD_getElem?, Array.getElem?_setIfInBounds] at hj ⊢
    rwa [if_neg (fun e => hjk e.symm)] at hj

/-- Which earlier operations come before operation j, as bits; of all operations, in order. -/
def ancOf (acc : List Nat) (o : Oper) : Nat := o.after.toList.foldl (fun s e => if Region.binds .any e then s ||| 2 ^ e.on ||| acc.getD e.on 0 else s) 0
def ancs : List Nat → List Oper → List Nat
  | acc, [] => acc
  | acc, o :: r => ancs (acc ++ [ancOf acc o]) r

theorem ancOf_spec {acc : List Nat} {o : Oper} {l : Nat} (h : (ancOf acc o).testBit l = true) : ∃ e ∈ o.after, Region.binds .any e = true ∧ (e.on = l ∨ (acc.getD e.on 0).testBit l = true) := by
  have key : ∀ (es : List Edge) (s : Nat), (es.foldl (fun s e => if Region.binds .any e then s ||| 2 ^ e.on ||| acc.getD e.on 0 else s) s).testBit l = true →
      s.testBit l = true ∨ ∃ e ∈ es, Region.binds .any e = true ∧ (e.on = l ∨ (acc.getD e.on 0).testBit l = true) := by
    intro es
    induction es with
    | nil => intro s h; exact .inl h
    | cons e es ih =>
      intro s h
      simp only [List.foldl_cons] at h
      rcases ih _ h with h1 | ⟨e', he', h2⟩
      · split at h1
        · rename_i hb
          simp only [Nat.testBit_or, Bool.or_eq_true, Nat.testBit_two_pow, decide_eq_true_eq] at h1
          rcases h1 with (h1 | h1) | h1
          · exact .inl h1
          · exact .inr ⟨e, List.mem_cons_self, hb, .inl h1⟩
          · exact .inr ⟨e, List.mem_cons_self, hb, .inr h1⟩
        · exact .inl h1
      · exact .inr ⟨e', List.mem_cons_of_mem _ he', h2⟩
  rcases key _ _ h with h | ⟨e, he, h⟩
  · simp at h
  · exact ⟨e, by simpa using he, h⟩

theorem ancs_spec {ops : Array Oper} : ∀ (r : List Oper) (acc : List Nat), (∀ j, r[j]? = ops[acc.length + j]?) → (∀ j l, (acc.getD j 0).testBit l = true → Anc ops l j) →
    ∀ j l, ((ancs acc r).getD j 0).testBit l = true → Anc ops l j
  | [], acc, _, h => h
  | o :: r, acc, hr, h => by
    refine ancs_spec r (acc ++ [ancOf acc o]) (fun j => ?_) (fun j l hj => ?_)
    · have := hr (j + 1)
      simpa [Nat.add_assoc, Nat.add_comm 1 j] using this
    · rcases Nat.lt_trichotomy j acc.length with hlt | heq | hgt
      · rw [List.getD_eq_getElem?_getD, List.getElem?_append_left hlt, ← List.getD_eq_getElem?_getD] at hj
        exact h j l hj
      · subst heq
        simp only [List.getD_eq_getElem?_getD, List.getElem?_append_right (Nat.le_refl _), Nat.sub_self, List.getElem?_cons_zero, Option.getD_some] at hj
        have h0 : ops[acc.length]? = some o := by simpa using (hr 0).symm
        obtain ⟨e, he, hb, h1 | h1⟩ := ancOf_spec hj
        · exact h1 ▸ .one h0 he hb
        · exact .more h0 he hb (h _ _ h1)
      · have : (acc ++ [ancOf acc o])[j]? = none := List.getElem?_eq_none (by simp; omega)
        simp [List.getD_eq_getElem?_getD, this] at hj

/-- Two operations that may change places: what they write, read and make is apart. -/
structure Comm (p q : IOpr) (r r' : Tr) : Prop where
  wr : ∀ t, p.d = some t → t ∉ q.reads
  rw' : ∀ t, q.d = some t → t ∉ p.reads
  ww : ∀ t, p.d = some t → q.d ≠ some t
  hr : ∀ k, k ∈ r.u.map Prod.fst → k ∉ r'.rd
  hr' : ∀ k, k ∈ r'.u.map Prod.fst → k ∉ r.rd
  hw : ∀ k, k ∈ r.u.map Prod.fst → k ∉ r'.u.map Prod.fst

/-- What operation p leaves does not speak of the object that q makes. -/
def Apart (q : IOpr) (r : Tr) : Prop := ∀ e, e ∈ q.fresh → r.c.noid e = true ∧ ∀ x, x ∈ r.u → ∀ o, x.2 = some o → o.noid e = true

theorem updO_cases (u : List (Nat × Option Ob)) : ∀ (ob : Nat → Option Ob) (i : Nat) (o : Ob), updO ob u i = some o → ob i = some o ∨ ∃ x, x ∈ u ∧ x.2 = some o := by
  induction u with
  | nil => intro ob i o h; exact .inl h
  | cons x u ih =>
    intro ob i o h
    obtain ⟨k, o'⟩ := x
    simp only [updO] at h
    rcases ih _ i o h with h1 | ⟨x, hx, h2⟩
    · by_cases e : k = i
      · rw [if_pos e] at h1; exact .inr ⟨_, List.mem_cons_self, h1⟩
      · rw [if_neg e] at h1; exact .inl h1
    · exact .inr ⟨x, List.mem_cons_of_mem _ hx, h2⟩

theorem noid_aft {p q : IOpr} {r : Tr} {s s' : St} (ha : Aft p r s s') (hap : Apart q r) {e : Nat} (he : e ∈ q.fresh) (h : s.noid e) : s'.noid e := by
  obtain ⟨h1, h2⟩ := hap e he
  constructor
  · intro t
    rw [ha.1 t]
    split
    · exact h1
    · exact h.1 t
  · intro i o ho
    rw [ha.2 i] at ho
    rcases updO_cases _ _ _ _ ho with h3 | ⟨x, hx, h3⟩
    · exact h.2 i o h3
    · exact h2 x hx o h3

/-- Whatever order is picked from here on. -/
def AnyF (P : Program) (G : List (Nat × PV)) (ops : Array Oper) (il : List IOpr) (tr : List Tr) (K : St → Prop) : Nat → Array Bool → St → Prop
  | 0, listed, s => Region.ready .any ops listed = [] ∧ K s
  | fuel + 1, listed, s => (Region.ready .any ops listed = [] → K s) ∧
    ∀ j ∈ Region.ready .any ops listed, ∃ p r, il[j]? = some p ∧ tr[j]? = some r ∧ Eff P G p r s ∧ ∀ s', Aft p r s s' → AnyF P G ops il tr K fuel (listed.setIfInBounds j true) s'

theorem getD_set_ne' {listed : Array Bool} {j k : Nat} (d : Bool) (h : j ≠ k) : (listed.setIfInBounds j true).getD k d = listed.getD k d := by
  simp [Array.getD_eq_getD_getElem?, Array.getElem?_setIfInBounds, h]

section
variable {P : Program} {G : List (Nat × PV)} {ops : Array Oper} {il : List IOpr} {tr : List Tr} {K : St → Prop}

/-- What is asked of all pairs of operations. -/
structure Pairs (ops : Array Oper) (il : List IOpr) (tr : List Tr) : Prop where
  comm : ∀ i j p q r r', i < j → il[i]? = some p → il[j]? = some q → tr[i]? = some r → tr[j]? = some r' → Anc ops i j ∨ Comm p q r r'
  apart : ∀ i j q r, i ≠ j → il[j]? = some q → tr[i]? = some r → Anc ops j i ∨ Apart q r

theorem Comm.symm {p q : IOpr} {r r' : Tr} (h : Comm p q r r') : Comm q p r' r :=
  ⟨h.rw', h.wr, fun t ht e => h.ww t e ht, h.hr', h.hr, fun k hk hk' => h.hw k hk' hk⟩

theorem anyF_first (hp : Pairs ops il tr) {k : Nat} {p : IOpr} {r : Tr} (hpk : il[k]? = some p) (hrk : tr[k]? = some r) :
    ∀ (fuel : Nat) (listed : Array Bool) (s : St), Closed ops listed → (∀ l q, il[l]? = some q → listed.getD l true = false → ∀ e ∈ q.fresh, s.noid e) →
      (∀ j, listed.getD j true = false → ¬ Anc ops j k) → k ∈ Region.ready .any ops listed → Eff P G p r s →
      (∀ s', Aft p r s s' → AnyF P G ops il tr K fuel (listed.setIfInBounds k true) s') → AnyF P G ops il tr K (fuel + 1) listed s := by
  intro fuel
  induction fuel with
  | zero =>
    intro listed s hcl hni hna hr he H
    refine ⟨fun h => (by rw [h] at hr; cases hr), fun j hj => ?_⟩
    by_cases hjk : j = k
    · subst hjk; exact ⟨p, r, hpk, hrk, he, H⟩
    · have h1 := H _ (aft_upd p r s)
      have := ready_mono hj hjk
      rw [h1.1] at this
      cases this
  | succ fuel ih =>
    intro listed s hcl hni hna hr he H
    refine ⟨fun h => (by rw [h] at hr; cases hr), fun j hj => ?_⟩
    by_cases hjk : j = k
    · subst hjk; exact ⟨p, r, hpk, hrk, he, H⟩
    · obtain ⟨hjun, _⟩ := mem_ready.1 hj
      obtain ⟨hkun, _⟩ := mem_ready.1 hr
      have hs1 := aft_upd p r s
      obtain ⟨q, r', hq, hr', hej, Hj⟩ := (H _ hs1).2 j (ready_mono hj hjk)
      have nkj : ¬ Anc ops k j := fun h => by
        have := anc_listed hcl h (.inr hj)
        rcases Nat.lt_or_ge k listed.size with h' | h'
        · simp [Array.getD_eq_getD_getElem?, h'] at hkun this; rw [hkun] at this; cases this
        · simp [Array.getD_eq_getD_getElem?, Array.getElem?_eq_none h'] at this
      have njk : ¬ Anc ops j k := hna j hjun
      have hcomm : Comm p q r r' := by
        rcases Nat.lt_or_ge k j with hlt | hge
        · exact (hp.comm k j p q r r' hlt hpk hq hrk hr').resolve_left nkj
        · exact ((hp.comm j k q p r' r (by omega) hq hpk hr' hrk).resolve_left njk).symm
      have hapj : Apart p r' := (hp.apart j k p r' hjk hpk hr').resolve_left nkj
      have hej' : Eff P G q r' s := hej.loc (fun t ht => by
          rw [hs1.1 t, if_neg (fun e => hcomm.wr t e ht)]) (fun i hi => by
          rw [hs1.2 i, updO_out _ _ _ (fun h => hcomm.hr i h hi)]) (hni j q hq hjun)
      refine ⟨q, r', hq, hr', hej', fun s2 hs2 => ?_⟩
      refine ih (listed.setIfInBounds j true) s2 (closed_set hcl hj) (fun l q' hq' hl e he' => ?_) (fun i hi => ?_) (ready_mono hr (Ne.symm hjk)) ?_ fun s3 hs3 => ?_
      · by_cases hjl : j = l
        · subst hjl; simp [Array.getD_eq_getD_getElem?, Array.getElem?_setIfInBounds] at hl; split at hl <;> simp at hl
        · rw [getD_set_ne' true hjl] at hl
          have : ¬ Anc ops l j := fun h => by
            have := anc_listed hcl h (.inr hj)
            rcases Nat.lt_or_ge l listed.size with h' | h'
            · simp [Array.getD_eq_getD_getElem?, h'] at hl this; rw [hl] at this; cases this
            · simp [Array.getD_eq_getD_getElem?, Array.getElem?_eq_none h'] at this
          exact noid_aft hs2 ((hp.apart j l q' r' hjl hq' hr').resolve_left this) he' (hni l q' hq' hl e he')
      · by_cases hji : j = i
        · subst hji; simp [Array.getD_eq_getD_getElem?, Array.getElem?_setIfInBounds] at hi; split at hi <;> simp at hi
        · rw [getD_set_ne' true hji] at hi; exact hna i hi
      · exact he.loc (fun t ht => by rw [hs2.1 t, if_neg (fun e => hcomm.rw' t e ht)]) (fun i hi => by
          rw [hs2.2 i, updO_out _ _ _ (fun h => hcomm.hr' i h hi)]) (fun e he' => noid_aft hs2 hapj he' (hni k p hpk hkun e he'))
      · rw [Array.setIfInBounds_comm _ _ hjk]
        refine Hj s3 ⟨fun t => ?_, fun i => ?_⟩
        · rw [hs3.1 t, hs2.1 t, hs1.1 t]
          by_cases h1 : p.d = some t
          · rw [if_pos h1, if_neg (hcomm.ww t h1), if_pos h1]
          · rw [if_neg h1, if_neg h1]
        · rw [hs3.2 i]
          rw [updO_congr r.u _ (updO s.obj r'.u) i (hs2.2 i)]
          rw [updO_congr r'.u _ (updO s.obj r.u) i (hs1.2 i)]
          exact updO_comm r'.u r.u _ i (fun k hk hk' => hcomm.hw k hk' hk)

/-- The order of the text. -/
inductive Txt (P : Program) (G : List (Nat × PV)) (K : St → Prop) : List IOpr → List Tr → St → Prop
  | nil (s) (h : K s) : Txt P G K [] [] s
  | cons (p : IOpr) (r : Tr) (ps : List IOpr) (rs : List Tr) (s : St) (he : Eff P G p r s) (h : ∀ s', Aft p r s s' → Txt P G K ps rs s') : Txt P G K (p :: ps) (r :: rs) s

theorem anyF_of_txt (hp : Pairs ops il tr) (hord : ∀ k o, ops[k]? = some o → ∀ e ∈ o.after, Region.binds .any e = true → e.on < k) (hlen : il.length = ops.size) (hlen' : tr.length = ops.size) :
    ∀ (ps : List IOpr) (rs : List Tr) (k : Nat) (listed : Array Bool) (s : St), Txt P G K ps rs s → (∀ j, ps[j]? = il[k + j]?) → (∀ j, rs[j]? = tr[k + j]?) → k + ps.length = ops.size → listed.size = ops.size →
      (∀ j, j < ops.size → listed.getD j true = decide (j < k)) → (∀ l q, il[l]? = some q → listed.getD l true = false → ∀ e ∈ q.fresh, s.noid e) →
      AnyF P G ops il tr K ps.length listed s := by
  have hgetD : ∀ (listed : Array Bool) (j : Nat) (d d' : Bool), listed.size = ops.size → j < ops.size → listed.getD j d = listed.getD j d' := by
    intro listed j d d' hs hj
    simp [Array.getD_eq_getD_getElem?, show j < listed.size by omega]
  intro ps rs k listed s h
  induction h generalizing k listed with
  | nil s hK =>
    intro _ _ hsz hls hl _
    refine ⟨?_, hK⟩
    cases hrd : Region.ready .any ops listed with
    | nil => rfl
    | cons j rest =>
      have hj : j ∈ Region.ready .any ops listed := by rw [hrd]; exact List.mem_cons_self
      obtain ⟨h0, o, ho, _⟩ := mem_ready.1 hj
      have hlt : j < ops.size := (Array.getElem?_eq_some_iff.1 ho).1
      simp at hsz
      rw [hl j hlt] at h0
      simp at h0
      omega
  | cons p r ps rs s he h ih =>
    intro hps hrs hsz hls hl hni
    simp only [List.length_cons] at hsz ⊢
    have hpk : il[k]? = some p := by simpa using (hps 0).symm
    have hrk : tr[k]? = some r := by simpa using (hrs 0).symm
    have hk : k < ops.size := by omega
    obtain ⟨o, ho⟩ : ∃ o, ops[k]? = some o := ⟨_, Array.getElem?_eq_getElem hk⟩
    have hcl : Closed ops listed := by
      intro j o' ho' hj e he' hb
      have hj' : j < ops.size := (Array.getElem?_eq_some_iff.1 ho').1
      rw [hgetD listed j false true hls hj', hl j hj'] at hj
      have := hord j o' ho' e he' hb
      rw [hgetD listed e.on false true hls (by omega), hl e.on (by omega)]
      simp at hj ⊢
      omega
    have hready : k ∈ Region.ready .any ops listed := by
      refine mem_ready.2 ⟨by rw [hl k hk]; simp, o, ho, fun e he' hb => ?_⟩
      have := hord k o ho e he' hb
      rw [hgetD listed e.on false true hls (by omega), hl e.on (by omega)]
      simpa using this
    have hna : ∀ j, listed.getD j true = false → ¬ Anc ops j k := by
      intro j hj hanc
      have := anc_listed hcl hanc (.inr hready)
      rcases Nat.lt_or_ge j listed.size with h' | h'
      · simp [Array.getD_eq_getD_getElem?, h'] at hj this; rw [hj] at this; cases this
      · simp [Array.getD_eq_getD_getElem?, Array.getElem?_eq_none h'] at this
    refine anyF_first hp hpk hrk ps.length listed s hcl hni hna hready he fun s' hs' => ?_
    refine ih s' hs' (k + 1) (listed.setIfInBounds k true) (fun j => ?_) (fun j => ?_) (by omega) (by simpa using hls) (fun j hj => ?_) (fun l q hq hlf e he' => ?_)
    · have := hps (j + 1); simpa [Nat.add_assoc, Nat.add_comm 1 j] using this
    · have := hrs (j + 1); simpa [Nat.add_assoc, Nat.add_comm 1 j] using this
    · by_cases hkj : k = j
      · subst hkj
        simp [Array.getD_eq_getD_getElem?, Array.getElem?_setIfInBounds, show k < listed.size by omega]
      · rw [getD_set_ne' true hkj, hl j hj]
        simp
        omega
    · by_cases hkl : k = l
      · subst hkl; simp [Array.getD_eq_getD_getElem?, Array.getElem?_setIfInBounds] at hlf; split at hlf <;> simp at hlf
      · rw [getD_set_ne' true hkl] at hlf
        have : ¬ Anc ops l k := hna l hlf
        exact noid_aft hs' ((hp.apart k l q r hkl hq hrk).resolve_left this) he' (hni l q hq hlf e he')
end

/-! ### The walk of the text's order that serves every order -/
/-- 'l' comes before operation k. -/
def before (bits : List Nat) (l k : Nat) : Bool := (bits.getD k 0).testBit l

/-- What an operation leaves does not speak of objects that others make. -/
def apartB (bits : List Nat) (allocs : List (Nat × Nat)) (k : Nat) (c : AV) (u : List (Nat × Option Ob)) : Bool :=
  allocs.all fun x => x.1 == k || before bits x.1 k || (c.noid x.2 && u.all fun y => match y.2 with | some o => o.noid x.2 | none => true)

def disj (a b : List Nat) : Bool := a.all fun i => !b.contains i

/-- What an operation touches is apart from what others touched. -/
def touchB (bits : List Nat) (acc : List (Nat × List Nat × List Nat)) (k : Nat) (wr rd : List Nat) : Bool :=
  acc.all fun x => before bits x.1 k || (disj x.2.1 rd && disj wr x.2.2 && disj x.2.1 wr)

/-- An operation in a region that draws its order: as 'AOp', with what it changes. -/
def ADet (P : Program) (G : List (Nat × PV)) (s : St) (d : Nat) (K : AV → List (Nat × Option Ob) → Prop) (op : IOp) : Prop :=
  match op.isW with
  | true => AW nB G s d K op
  | false => AQ P G true s (fun c => K c []) op

def AOpsD (P : Program) (G : List (Nat × PV)) (bits : List Nat) (allocs : List (Nat × Nat)) : Nat → List IOpr → List (Nat × List Nat × List Nat) → St → (St → Prop) → Prop
  | _, [], _, s, K => K s
  | k, o :: r, acc, s, K =>
    let go : St → Prop := fun s => ADet P G s (o.d.getD 0) (fun c u => touchB bits acc k (u.map Prod.fst) (o.op.rd G s) = true ∧ apartB bits allocs k c u = true ∧
        AOpsD P G bits allocs (k + 1) r ((k, u.map Prod.fst, o.op.rd G s) :: acc) ((s.upd u).putD o.d c) K) o.op
    let no : St → Prop := fun s => AOpsD P G bits allocs (k + 1) r ((k, [], []) :: acc) (s.putD o.d (.p true (.v undef))) K
    match o.g with
    | none => go s
    | some (t, want) => match s.get t with
      | .p true (.v (.bool b)) => (b = want → go (s.put t (.p true (.v (.bool want))))) ∧ (b = !want → no (s.put t (.p true (.v (.bool !want)))))
      | .p true (.v (.tuple _)) => no s
      | _ => False

/-- The slots that two operations write and read are apart. -/
def slotsB (p q : IOpr) : Bool :=
  match p.d, q.d with
  | some t, some u => !q.reads.contains t && !p.reads.contains u && t != u
  | some t, none => !q.reads.contains t
  | none, some u => !p.reads.contains u
  | none, none => true

def slotsAll (bits : List Nat) : Nat → List IOpr → List (Nat × IOpr) → Bool
  | _, [], _ => true
  | k, p :: r, acc => (acc.all fun x => before bits x.1 k || slotsB x.2 p) && slotsAll bits (k + 1) r ((k, p) :: acc)

def allocsOf : Nat → List IOpr → List (Nat × Nat)
  | _, [] => []
  | k, p :: r => (p.fresh.map fun e => (k, e)) ++ allocsOf (k + 1) r

def ordB : Nat → List Oper → Bool
  | _, [] => true
  | k, o :: r => (o.after.toList.all fun e => !Region.binds .any e || decide (e.on < k)) && ordB (k + 1) r

theorem allocsOf_spec : ∀ (l : List IOpr) (k j : Nat) (p : IOpr) (e : Nat), l[j]? = some p → e ∈ p.fresh → (k + j, e) ∈ allocsOf k l
  | p :: r, k, 0, q, e, h, he => by
    simp at h
    subst h
    simp [allocsOf, he]
  | p :: r, k, j + 1, q, e, h, he => by
    simp only [allocsOf, List.mem_append]
    refine .inr ?_
    have := allocsOf_spec r (k + 1) j q e (by simpa using h) he
    rwa [show k + 1 + j = k + (j + 1) by omega] at this
  | [], _, _, _, _, h, _ => by simp at h

theorem ordB_spec : ∀ (l : List Oper) (k j : Nat) (o : Oper), ordB k l = true → l[j]? = some o → ∀ e ∈ o.after, Region.binds .any e = true → e.on < k + j
  | o :: r, k, 0, q, h, hj, e, he, hb => by
    simp at hj
    subst hj
    simp only [ordB, Bool.and_eq_true, List.all_eq_true] at h
    have := h.1 e (by simpa using he)
    simpa [hb] using this
  | o :: r, k, j + 1, q, h, hj, e, he, hb => by
    simp only [ordB, Bool.and_eq_true] at h
    have := ordB_spec r (k + 1) j q h.2 (by simpa using hj) e he hb
    omega
  | [], _, _, _, _, h, _, _, _ => by simp at h

theorem slotsAll_spec {bits : List Nat} : ∀ (l : List IOpr) (k : Nat) (acc : List (Nat × IOpr)), slotsAll bits k l acc = true →
    (∀ i j p q, i < j → l[i]? = some p → l[j]? = some q → before bits (k + i) (k + j) = true ∨ slotsB p q = true) ∧
    (∀ x ∈ acc, ∀ j q, l[j]? = some q → before bits x.1 (k + j) = true ∨ slotsB x.2 q = true)
  | [], _, _, _ => ⟨fun i j p q _ h => by simp at h, fun x _ j q h => by simp at h⟩
  | p :: r, k, acc, h => by
    simp only [slotsAll, Bool.and_eq_true, List.all_eq_true, Bool.or_eq_true] at h
    obtain ⟨h1, h2⟩ := slotsAll_spec r (k + 1) _ h.2
    refine ⟨fun i j p' q hij hi hj => ?_, fun x hx j q hj => ?_⟩
    · cases j with
      | zero => omega
      | succ j =>
        cases i with
        | zero =>
          simp at hi
          subst hi
          have := h2 _ List.mem_cons_self j q (by simpa using hj)
          rwa [show k + 1 + j = k + (j + 1) by omega] at this
        | succ i =>
          have := h1 i j p' q (by omega) (by simpa using hi) (by simpa using hj)
          rwa [show k + 1 + j = k + (j + 1) by omega, show k + 1 + i = k + (i + 1) by omega] at this
    · cases j with
      | zero => simp at hj; subst hj; exact h.1 x hx
      | succ j =>
        have := h2 x (List.mem_cons_of_mem _ hx) j q (by simpa using hj)
        rwa [show k + 1 + j = k + (j + 1) by omega] at this

theorem AW_nB {G : List (Nat × PV)} {s : St} {d : Nat} {K : AV → List (Nat × Option Ob) → Prop} {op : IOp} (h : AW nB G s d K op) : AW St.noid G s d K op := by
  cases op <;> simp only [AW] at h ⊢
  all_goals first
    | exact ⟨St.noid_of h.1, h.2⟩
    | exact h

theorem ADet_core {P : Program} {G : List (Nat × PV)} {s : St} {d : Nat} {K : AV → List (Nat × Option Ob) → Prop} {op : IOp} (h : ADet P G s d K op) : ∃ c u, K c u ∧ Core P G s d c u op := by
  unfold ADet at h
  split at h
  · rename_i hw
    obtain ⟨c, u, h1, h2⟩ := AW_det (AW_nB h)
    exact ⟨c, u, h1, by unfold Core; rw [hw]; exact h2⟩
  · rename_i hw
    obtain ⟨c, h1, h2⟩ := AQ_det h
    exact ⟨c, [], h1, by unfold Core; rw [hw]; exact ⟨rfl, h2⟩⟩

theorem touch_nil (bits : List Nat) (acc : List (Nat × List Nat × List Nat)) (k : Nat) : touchB bits acc k [] [] = true := by
  simp [touchB, disj]

theorem apart_undef (bits : List Nat) (allocs : List (Nat × Nat)) (k : Nat) : apartB bits allocs k (.p true (.v undef)) [] = true := by
  simp [apartB, AV.noid]

theorem AW_fresh {N : St → Nat → Prop} {G : List (Nat × PV)} {s : St} {d : Nat} {K : AV → List (Nat × Option Ob) → Prop} {op : IOp} (h : AW N G s d K op) : ∀ e ∈ op.fresh d, N s e := by
  cases op <;> simp only [AW] at h
  all_goals first
    | (intro e he; simp [IOp.fresh] at he; done)
    | (intro e he; simp only [IOp.fresh, List.mem_singleton] at he; subst he; exact h.1)

theorem noid_congr {s s' : St} (h1 : ∀ t, s'.get t = s.get t) (h2 : ∀ i, s'.obj i = s.obj i) {e : Nat} (h : s.noid e) : s'.noid e :=
  ⟨fun t => by rw [h1]; exact h.1 t, fun i o ho => h.2 i o (by rw [← h2]; exact ho)⟩

theorem core_fresh {P : Program} {G : List (Nat × PV)} {s : St} {d : Nat} {c : AV} {u : List (Nat × Option Ob)} {op : IOp} (h : Core P G s d c u op) : ∀ e ∈ op.fresh d, s.noid e := by
  unfold Core at h
  split at h
  · exact AW_fresh h
  · rename_i hw
    intro e he
    cases op <;> simp [IOp.fresh] at he <;> simp [IOp.isW] at hw

/-- The trace of a walk in the order of the text, with what it shows of pairs. -/
theorem txt_of {P : Program} {G : List (Nat × PV)} {bits : List Nat} {allocs : List (Nat × Nat)} {K : St → Prop} :
    ∀ (l : List IOpr) (k : Nat) (acc : List (Nat × List Nat × List Nat)) (s : St), AOpsD P G bits allocs k l acc s K →
      ∃ rs : List Tr, rs.length = l.length ∧
        (∀ s', (∀ t, s'.get t = s.get t) → (∀ i, s'.obj i = s.obj i) →
          Txt P G (fun s' => ∃ s0, K s0 ∧ (∀ t, s'.get t = s0.get t) ∧ (∀ i, s'.obj i = s0.obj i)) l rs s') ∧
        (∀ j r, rs[j]? = some r → touchB bits acc (k + j) (r.u.map Prod.fst) r.rd = true ∧ apartB bits allocs (k + j) r.c r.u = true) ∧
        (∀ i j r r', i < j → rs[i]? = some r → rs[j]? = some r' → before bits (k + i) (k + j) = true ∨
          (disj (r.u.map Prod.fst) r'.rd && disj (r'.u.map Prod.fst) r.rd && disj (r.u.map Prod.fst) (r'.u.map Prod.fst)) = true)
  | [], k, acc, s, h => ⟨[], rfl, fun s' h1 h2 => .nil s' ⟨s, h, h1, h2⟩, fun j r h => by simp at h, fun i j r r' _ h => by simp at h⟩
  | o :: l, k, acc, s, h => by
    have step : ∀ (r : Tr) (s1 : St), (∀ t, s1.get t = if o.d = some t then r.c else s.get t) → (∀ i, s1.obj i = updO s.obj r.u i) →
        (∀ s', (∀ t, s'.get t = s.get t) → (∀ i, s'.obj i = s.obj i) → Eff P G o r s') →
        touchB bits acc k (r.u.map Prod.fst) r.rd = true → apartB bits allocs k r.c r.u = true →
        AOpsD P G bits allocs (k + 1) l ((k, r.u.map Prod.fst, r.rd) :: acc) s1 K →
        ∃ rs : List Tr, rs.length = (o :: l).length ∧
        (∀ s', (∀ t, s'.get t = s.get t) → (∀ i, s'.obj i = s.obj i) →
          Txt P G (fun s' => ∃ s0, K s0 ∧ (∀ t, s'.get t = s0.get t) ∧ (∀ i, s'.obj i = s0.obj i)) (o :: l) rs s') ∧
        (∀ j r, rs[j]? = some r → touchB bits acc (k + j) (r.u.map Prod.fst) r.rd = true ∧ apartB bits allocs (k + j) r.c r.u = true) ∧
        (∀ i j r r', i < j → rs[i]? = some r → rs[j]? = some r' → before bits (k + i) (k + j) = true ∨
          (disj (r.u.map Prod.fst) r'.rd && disj (r'.u.map Prod.fst) r.rd && disj (r.u.map Prod.fst) (r'.u.map Prod.fst)) = true) := by
      intro r s1 hg ho heff ht hap hrest
      obtain ⟨rs, hlen, htxt, hall, hpair⟩ := txt_of l (k + 1) _ s1 hrest
      refine ⟨r :: rs, by simp [hlen], fun s' h1 h2 => .cons o r l rs s' (heff s' h1 h2) fun s'' ha => htxt s'' (fun t => ?_) (fun i => ?_), fun j r' hj => ?_, fun i j r1 r2 hij hi hj => ?_⟩
      · rw [ha.1 t, hg t, h1 t]
      · rw [ha.2 i, ho i]
        exact updO_congr r.u _ _ i (h2 i)
      · cases j with
        | zero => simp at hj; subst hj; exact ⟨ht, hap⟩
        | succ j =>
          obtain ⟨h3, h4⟩ := hall j r' (by simpa using hj)
          rw [show k + 1 + j = k + (j + 1) by omega] at h3 h4
          simp only [touchB, List.all_cons, Bool.and_eq_true] at h3
          exact ⟨by simpa only [touchB] using h3.2, h4⟩
      · cases j with
        | zero => omega
        | succ j =>
          cases i with
          | zero =>
            simp at hi
            subst hi
            obtain ⟨h3, _⟩ := hall j r2 (by simpa using hj)
            rw [show k + 1 + j = k + (j + 1) by omega] at h3
            simp only [touchB, List.all_cons, Bool.and_eq_true, Bool.or_eq_true] at h3
            rcases h3.1 with h3 | h3
            · exact .inl h3
            · exact .inr (by simp only [Bool.and_eq_true]; exact h3)
          | succ i =>
            have := hpair i j r1 r2 (by omega) (by simpa using hi) (by simpa using hj)
            rwa [show k + 1 + j = k + (j + 1) by omega, show k + 1 + i = k + (i + 1) by omega] at this
    have runs : ∀ (s1 : St), (∀ t, s1.get t = s.get t) → (∀ i, s1.obj i = s.obj i) → (∀ t want, o.g = some (t, want) → s1.get t = .p true (.v (.bool want))) →
        ADet P G s1 (o.d.getD 0) (fun c u => touchB bits acc k (u.map Prod.fst) (o.op.rd G s1) = true ∧ apartB bits allocs k c u = true ∧
          AOpsD P G bits allocs (k + 1) l ((k, u.map Prod.fst, o.op.rd G s1) :: acc) ((s1.upd u).putD o.d c) K) o.op →
        ∃ rs : List Tr, rs.length = (o :: l).length ∧
        (∀ s', (∀ t, s'.get t = s.get t) → (∀ i, s'.obj i = s.obj i) →
          Txt P G (fun s' => ∃ s0, K s0 ∧ (∀ t, s'.get t = s0.get t) ∧ (∀ i, s'.obj i = s0.obj i)) (o :: l) rs s') ∧
        (∀ j r, rs[j]? = some r → touchB bits acc (k + j) (r.u.map Prod.fst) r.rd = true ∧ apartB bits allocs (k + j) r.c r.u = true) ∧
        (∀ i j r r', i < j → rs[i]? = some r → rs[j]? = some r' → before bits (k + i) (k + j) = true ∨
          (disj (r.u.map Prod.fst) r'.rd && disj (r'.u.map Prod.fst) r.rd && disj (r.u.map Prod.fst) (r'.u.map Prod.fst)) = true) := by
      intro s1 h1 h2 hg hd
      obtain ⟨c, u, ⟨ht, hap, hrest⟩, hcore⟩ := ADet_core hd
      refine step ⟨c, u, o.op.rd G s1⟩ _ (fun t => ?_) (fun i => ?_) (fun s' h3 h4 => ?_) ht hap hrest
      · rw [get_putD, get_upd, h1]
      · rw [obj_putD, obj_upd]
        exact updO_congr u _ _ i (h2 i)
      · have he : Eff P G o ⟨c, u, o.op.rd G s1⟩ s1 := .run hg (fun i hi => hi) hcore
        exact he.loc (fun t _ => by rw [h3, h1]) (fun i _ => by rw [h4, h2]) (fun e he' => noid_congr (fun t => by rw [h3, h1]) (fun i => by rw [h4, h2]) (core_fresh hcore e he'))
    simp only [AOpsD] at h
    split at h
    · rename_i hg
      exact runs s (fun _ => rfl) (fun _ => rfl) (fun t want e => by rw [hg] at e; cases e) h
    · rename_i t want hg
      split at h
      · rename_i b hb
        by_cases hbw : b = want
        · subst hbw
          have e : ∀ u, (s.put t (.p true (.v (.bool b)))).get u = s.get u := fun u => by
            rw [St.get_put]; split
            · rename_i e; subst e; exact hb.symm
            · rfl
          exact runs _ e (fun _ => rfl) (fun t' want' e' => by rw [hg] at e'; cases e'; rw [e, hb]) (h.1 rfl)
        · have hb' : b = !want := by cases b <;> cases want <;> simp_all
          subst hb'
          have e : ∀ u, (s.put t (.p true (.v (.bool !want)))).get u = s.get u := fun u => by
            rw [St.get_put]; split
            · rename_i e; subst e; exact hb.symm
            · rfl
          refine step ⟨.p true (.v undef), [], []⟩ _ (fun u => ?_) (fun i => ?_) (fun s' h3 h4 => ?_) (touch_nil _ _ _) (apart_undef _ _ _) (h.2 rfl)
          · rw [get_putD, e]
          · rw [obj_putD]; rfl
          · exact .skip t want _ hg (by rw [h3, hb]) (by cases want <;> simp [asB]) rfl rfl
      · rename_i vs hb
        refine step ⟨.p true (.v undef), [], []⟩ _ (fun u => ?_) (fun i => ?_) (fun s' h3 h4 => ?_) (touch_nil _ _ _) (apart_undef _ _ _) h
        · rw [get_putD]
        · rw [obj_putD]; rfl
        · exact .skip t want _ hg (by rw [h3, hb]) (by simp [asB]) rfl rfl
      · exact h.elim

theorem disj_spec {a b : List Nat} (h : disj a b = true) : ∀ k, k ∈ a → k ∉ b := by
  intro k hk hb
  simp only [disj, List.all_eq_true] at h
  have := h k hk
  simp [hb] at this

theorem slotsB_spec {p q : IOpr} (h : slotsB p q = true) : (∀ t, p.d = some t → t ∉ q.reads) ∧ (∀ t, q.d = some t → t ∉ p.reads) ∧ (∀ t, p.d = some t → q.d ≠ some t) := by
  unfold slotsB at h
  split at h
  · rename_i t u h1 h2
    simp only [Bool.and_eq_true, Bool.not_eq_true', bne_iff_ne, ne_eq, List.contains_eq_mem, decide_eq_false_iff_not] at h
    refine ⟨fun t' e => ?_, fun t' e => ?_, fun t' e e' => ?_⟩
    · rw [h1] at e; cases e; exact h.1.1
    · rw [h2] at e; cases e; exact h.1.2
    · rw [h1] at e; cases e; rw [h2] at e'; cases e'; exact h.2 rfl
  · rename_i t h1 h2
    simp only [Bool.not_eq_true', List.contains_eq_mem, decide_eq_false_iff_not] at h
    refine ⟨fun t' e => ?_, fun t' e => ?_, fun t' e e' => ?_⟩
    · rw [h1] at e; cases e; exact h
    · rw [h2] at e; cases e
    · rw [h2] at e'; cases e'
  · rename_i t h1 h2
    simp only [Bool.not_eq_true', List.contains_eq_mem, decide_eq_false_iff_not] at h
    refine ⟨fun t' e => ?_, fun t' e => ?_, fun t' e e' => ?_⟩
    · rw [h1] at e; cases e
    · rw [h2] at e; cases e; exact h
    · rw [h1] at e; cases e
  · rename_i h1 h2
    exact ⟨fun t' e => (by rw [h1] at e; cases e), fun t' e => (by rw [h2] at e; cases e), fun t' e => (by rw [h1] at e; cases e)⟩

theorem apartB_spec {bits : List Nat} {allocs : List (Nat × Nat)} {k : Nat} {c : AV} {u : List (Nat × Option Ob)} (h : apartB bits allocs k c u = true) {l e : Nat} (hm : (l, e) ∈ allocs) (hl : l ≠ k) (hb : before bits l k = false) :
    c.noid e = true ∧ ∀ x, x ∈ u → ∀ o, x.2 = some o → o.noid e = true := by
  simp only [apartB, List.all_eq_true] at h
  have := h _ hm
  simp only [hb, Bool.or_eq_true, beq_iff_eq, Bool.false_eq_true, or_false, Bool.and_eq_true, List.all_eq_true] at this
  rcases this with h1 | ⟨h1, h2⟩
  · exact (hl h1).elim
  · refine ⟨h1, fun x hx o ho => ?_⟩
    have := h2 x hx
    rw [ho] at this
    exact this

theorem Models.same {cx : Cx} {ι : Nat → Value} {s s' : St} {a : Act} {w : World} (hm : Models cx ι s a w) (h1 : ∀ t, s'.get t = s.get t) (h2 : ∀ i, s'.obj i = s.obj i) : Models cx ι s' a w := by
  have hin : ∀ b, inH ι s' b ↔ inH ι s b := fun b => by simp only [inH, h2]
  have hF : zF cx ι s' = zF cx ι s := by funext b; simp only [zF, hin]
  have hZ : zZ cx ι s' = zZ cx ι s := by funext b; simp only [zZ, hin]
  exact {
    defers := hm.defers
    size := hm.size
    env := fun t => by rw [h1, hF, hZ]; exact hm.env t
    obs := fun i o h => by rw [hF, hZ]; exact hm.obs i o (by rw [← h2]; exact h)
    dj := fun i o j o' b h h' => hm.dj i o j o' b (by rw [← h2]; exact h) (by rw [← h2]; exact h')
    new := fun b h => hm.new b ((hin b).1 h)
    ext := hm.ext
    gl := fun g c h => by rw [hZ]; exact hm.gl g c h }

theorem Does.eff {P : Program} {cx : Cx} {n : Nat} {ops : Array Oper} {o : Oper} {p : IOpr} {r : Tr} (hc : compOper P cx.n ops o = some p) {s : St} (he : Eff P cx.G p r s) {ι : Nat → Value} {a : Act} {w : World} (hm : Models cx ι s a w)
    {K : Act → World → Prop} {Q : Exit → Act → World → Prop} (hK : ∀ ι' s' a' w', Aft p r s s' → Models cx ι' s' a' w' → K a' w') :
    if Region.wanted o (yielded ops a.tmps) then o.wp P a w K Q else K (a.put o.dst undef) w := by
  unfold compOper at hc
  split at hc
  · cases hc
  · rename_i io hio
    split at hc
    · rename_i hd
      have hdst : ∀ t, o.dst = some t → t < cx.n := fun t ht => by rw [ht] at hd; simpa [dstOk] using hd
      have run : ∀ (p : IOpr), p.d = o.dst → p.op = io → Core P cx.G s (p.d.getD 0) r.c r.u p.op → (∀ ι' s' a' w', Aft p r s s' → Models cx ι' s' a' w' → K a' w') → o.wp P a w K Q := by
        intro p hpd hpo hcore hK
        have hA : AOp P cx.G true St.noid s (p.d.getD 0) (fun c s' => c = r.c ∧ s' = s.upd r.u) p.op := by
          unfold Core at hcore
          unfold AOp
          split
          · rename_i hw
            rw [hw] at hcore
            have key : ∀ {K K' : AV → List (Nat × Option Ob) → Prop} {op : IOp}, (∀ c u, K c u → K' c u) → AW St.noid cx.G s (p.d.getD 0) K op → AW St.noid cx.G s (p.d.getD 0) K' op := by
              intro K K' op hk h
              obtain ⟨c, u, h1, h2⟩ := AW_det h
              have h3 := hk c u h1
              cases op <;> simp only [AW] at h h2 ⊢
              all_goals first
                | exact h.elim
                | (obtain ⟨a1, a2, a3, rfl, rfl⟩ := h2; exact ⟨a1, a2, a3, h3⟩)
                | (obtain ⟨a1, rfl, rfl⟩ := h2; exact ⟨a1, h3⟩)
            exact key (fun c u ⟨h1, h2⟩ => ⟨h1, by rw [h2]⟩) hcore
          · rename_i hw
            rw [hw] at hcore
            obtain ⟨hu, hq⟩ := hcore
            rw [hu]
            exact AQ_mono (fun c hc => ⟨hc, rfl⟩) hq
        rw [hpo] at hA
        refine compOp_does (ty := o.type) hio hA ι a w hm o rfl rfl K Q ?_
        rintro ι' c s' v w' ⟨rfl, rfl⟩ hm' hrep
        refine hK ι' _ _ w' (aft_upd p r s) ?_
        rw [hpd]
        exact hm'.putD hrep hdst
      split at hc
      · rename_i hg
        cases hc
        have hw : Region.wanted o (yielded ops a.tmps) = true := by simp [Region.wanted, hg]
        rw [if_pos hw]
        cases he with
        | skip t want v hg' => cases hg'
        | run _ _ hcore => exact run _ rfl rfl hcore hK
      · rename_i j want hg
        split at hc
        · rename_i t ht
          cases hc
          have henv := hm.env t
          cases he with
          | skip t' want' v hg' hv hb hcc hu =>
            cases hg'
            rw [hv] at henv
            have hy := yielded_of ht (rep_v henv)
            have hw : Region.wanted o (yielded ops a.tmps) = false := by simpa [Region.wanted, hg, hy] using hb
            rw [if_neg (by simp [hw])]
            have hs := aft_upd ⟨o.dst, some (t, want), io⟩ r s
            refine hK ι _ _ w hs ?_
            rw [hcc, hu]
            exact hm.putD (rep_mkv _) hdst
          | run hg' _ hcore =>
            have hv := hg' t want rfl
            rw [hv] at henv
            have hy := yielded_of ht (rep_v henv)
            have hw : Region.wanted o (yielded ops a.tmps) = true := by simp [Region.wanted, hg, hy, asB]
            rw [if_pos hw]
            exact run _ rfl rfl hcore hK
        · cases hc
    · cases hc

theorem wpAny_of_anyF {P : Program} {cx : Cx} {ops : Array Oper} {il : List IOpr} {tr : List Tr} {K : St → Prop} {Q : Exit → Act → World → Prop}
    (hil : ops.toList.mapM (compOper P cx.n ops) = some il) (hK : ∀ ι s a w, K s → Models cx ι s a w → Q .normal a w) :
    ∀ (fuel : Nat) (listed : Array Bool) (s : St), AnyF P cx.G ops il tr K fuel listed s → ∀ ι a w, Models cx ι s a w → wpAny P .any ops Q fuel listed a w
  | 0, listed, s, h, ι, a, w, hm => ⟨h.1, hK ι s a w h.2 hm⟩
  | fuel + 1, listed, s, h, ι, a, w, hm => by
    refine ⟨fun h0 => hK ι s a w (h.1 h0) hm, fun j hj => ?_⟩
    obtain ⟨p, r, hp, hr, he, hrest⟩ := h.2 j hj
    obtain ⟨_, o, ho, _⟩ := mem_ready.1 hj
    have hc : compOper P cx.n ops o = some p := by
      have key : ∀ (l : List Oper) (il : List IOpr) (j : Nat), l.mapM (compOper P cx.n ops) = some il → l[j]? = some o → il[j]? = some p → compOper P cx.n ops o = some p := by
        intro l
        induction l with
        | nil => intro il j _ h; simp at h
        | cons x l ih =>
          intro il j hm hl hp
          simp only [List.mapM_cons, Option.bind_eq_bind, Option.bind_eq_some_iff, Option.pure_def, Option.some.injEq] at hm
          obtain ⟨y, hy, il', hil', rfl⟩ := hm
          cases j with
          | zero => simp at hl hp; subst hl; subst hp; exact hy
          | succ j => exact ih il' j hil' (by simpa using hl) (by simpa using hp)
      exact key ops.toList il j hil (by simpa using ho) hp
    unfold wpOp
    simp only [ho]
    have := Does.eff (n := cx.n) hc he hm (K := wpAny P .any ops Q fuel (listed.setIfInBounds j true)) (Q := Q) fun ι' s' a' w' ha hm' => wpAny_of_anyF hil hK fuel _ s' (hrest s' ha) ι' a' w' hm'
    split
    · rename_i hw; rw [if_pos hw] at this; exact .inl this
    · rename_i hw; rw [if_neg hw] at this; exact this

/-- What is reckoned of a region that draws its order. -/
def drawOk (ops : Array Oper) (il : List IOpr) : Bool :=
  ordB 0 ops.toList && slotsAll (ancs [] ops.toList) 0 il []

theorem wp_draw {P : Program} {cx : Cx} {ops : Array Oper} {il : List IOpr} {K : St → Prop} {Q : Exit → Act → World → Prop} {id : Nat} (hmx : P.follows .mixedOrders = true)
    (hil : ops.toList.mapM (compOper P cx.n ops) = some il) (hok : drawOk ops il = true) (hK : ∀ ι s a w, K s → Models cx ι s a w → Q .normal a w) {s : St}
    (hni : ((allocsOf 0 il).all fun x => s.noidB x.2) = true) (h : AOpsD P cx.G (ancs [] ops.toList) (allocsOf 0 il) 0 il [] s K) {ι : Nat → Value} {a : Act} {w : World} (hm : Models cx ι s a w) :
    (Code.region id ops true).wp P Q a w := by
  simp only [drawOk, Bool.and_eq_true] at hok
  obtain ⟨rs, hlen, htxt, hall, hpair⟩ := txt_of il 0 [] s h
  have hanc : ∀ l k, before (ancs [] ops.toList) l k = true → Anc ops l k := fun l k hb => ancs_spec ops.toList [] (fun j => by simp) (fun j l h => by simp at h) k l hb
  have hlil : il.length = ops.size := by
    have key : ∀ (l : List Oper) (il : List IOpr), l.mapM (compOper P cx.n ops) = some il → il.length = l.length := by
      intro l
      induction l with
      | nil => intro il h; simp at h; subst h; rfl
      | cons x l ih =>
        intro il h
        simp only [List.mapM_cons, Option.bind_eq_bind, Option.bind_eq_some_iff, Option.pure_def, Option.some.injEq] at h
        obtain ⟨y, hy, il', hil', rfl⟩ := h
        simp [ih il' hil']
    simpa using key _ _ hil
  have hpairs : Pairs ops il rs := by
    constructor
    · intro i j p q r r' hij hp hq hr hr'
      rcases hpair i j r r' hij hr hr' with hb | hd
      · exact .inl (hanc _ _ (by simpa using hb))
      · rcases (slotsAll_spec il 0 [] hok.2).1 i j p q hij hp hq with hb | hsl
        · exact .inl (hanc _ _ (by simpa using hb))
        · obtain ⟨h1, h2, h3⟩ := slotsB_spec hsl
          simp only [Bool.and_eq_true] at hd
          exact .inr ⟨h1, h2, h3, disj_spec hd.1.1, disj_spec hd.1.2, disj_spec hd.2⟩
    · intro i j q r hij hq hr
      obtain ⟨_, hap⟩ := hall i r hr
      rw [Nat.zero_add] at hap
      cases hb : before (ancs [] ops.toList) j i with
      | true => exact .inl (hanc _ _ hb)
      | false =>
        refine .inr fun e he => ?_
        have := allocsOf_spec il 0 j q e hq he
        rw [Nat.zero_add] at this
        exact apartB_spec hap this (fun e => hij e.symm) hb
  refine wp_region_any hmx (wpAny_of_anyF (tr := rs) (K := fun s' => ∃ s0, K s0 ∧ (∀ t, s'.get t = s0.get t) ∧ (∀ i, s'.obj i = s0.obj i)) hil ?_ ops.size _ s ?_ ι a _ (hm.grow (Grows.drew w)))
  · rintro ι s' a w ⟨s0, hk, h1, h2⟩ hm
    exact hK ι s0 a w hk (hm.same (fun t => (h1 t).symm) (fun i => (h2 i).symm))
  · have := anyF_of_txt (P := P) (G := cx.G) (K := fun s' => ∃ s0, K s0 ∧ (∀ t, s'.get t = s0.get t) ∧ (∀ i, s'.obj i = s0.obj i)) hpairs
      (fun k o ho e he hb => by simpa using ordB_spec ops.toList 0 k o hok.1 (by simpa using ho) e he hb) hlil (hlen.trans hlil) il rs 0 (Array.replicate ops.size false) s
      (htxt s (fun _ => rfl) (fun _ => rfl)) (fun j => by simp) (fun j => by simp) (by simpa using hlil) (by simp) (fun j hj => by simp [Array.getD_eq_getD_getElem?, hj])
      (fun l q hq _ e he => by
        rw [List.all_eq_true] at hni
        have := allocsOf_spec il 0 l q e hq he
        exact St.noid_of (hni _ this))
    rw [hlil] at this
    exact this
end Go.Fw
