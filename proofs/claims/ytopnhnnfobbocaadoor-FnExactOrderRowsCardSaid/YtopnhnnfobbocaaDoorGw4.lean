/- Calls: what a callee is given, what it gives back; with no condition. -/
import Derived.Test.YtopnhnnfobbocaaDoorGw3
namespace Go.Gw
open Go
set_option linter.unusedVariables false
set_option linter.unusedSimpArgs false

def idxOf : List Nat → Nat → Option Nat
  | [], _ => none
  | p :: ps, i => if p = i then some 0 else (idxOf ps i).map (· + 1)

theorem idxOf_get : ∀ {ps : List Nat} {i k : Nat}, idxOf ps i = some k → ps[k]? = some i
  | [], i, k, h => by cases h
  | p :: ps, i, k, h => by
    simp only [idxOf] at h
    split at h
    · rename_i e; cases h; simp [e]
    · simp only [Option.map_eq_some_iff] at h
      obtain ⟨k', h', rfl⟩ := h
      simpa using idxOf_get h'

theorem idxOf_none : ∀ {ps : List Nat} {i : Nat}, idxOf ps i = none ↔ i ∉ ps
  | [], i => by simp [idxOf]
  | p :: ps, i => by
    simp only [idxOf]
    split
    · rename_i e; simp [e]
    · rename_i e
      simp only [Option.map_eq_none_iff, idxOf_none, List.mem_cons, not_or]
      exact ⟨fun h => ⟨fun h' => e h'.symm, h⟩, fun h => h.2⟩

theorem nodupB_cons {x : Nat} {l : List Nat} (h : nodupB (x :: l) = true) : x ∉ l ∧ nodupB l = true := by
  simpa [nodupB] using h

theorem idxOf_of_get : ∀ {ps : List Nat} {i k : Nat}, nodupB ps = true → ps[k]? = some i → idxOf ps i = some k
  | [], i, k, _, h => by simp at h
  | p :: ps, i, 0, hn, h => by simp at h; simp [idxOf, h]
  | p :: ps, i, k + 1, hn, h => by
    have hn := nodupB_cons hn
    simp only [List.getElem?_cons_succ] at h
    have hm : i ∈ ps := List.mem_of_getElem? h
    simp only [idxOf]
    have hne : ¬ p = i := fun e => hn.1 (by rw [e]; exact hm)
    rw [if_neg hne, idxOf_of_get hn.2 h]
    rfl

def mapO {α β : Type} (f : α → Option β) : List α → Option (List β)
  | [] => some []
  | x :: l => match f x, mapO f l with
    | some a, some b => some (a :: b)
    | _, _ => none

def pvwStep (ob : Nat → Option Ob) (ps : List Nat) (r : Option (AV → Option PV)) : AV → Option PV
  | .p _ c => some c
  | .own i => match ps.contains i with
    | true => none
    | false => match ob i with
      | some (.row _ nn e n g []) => some (.sl nn e n g)
      | _ => none
  | .adr i o => match r with
    | none => none
    | some r => match ps.contains i with
      | true => none
      | false => match ob i with
        | some (.box cs) => match mapO r cs with
          | some l => some (.pp (l.length - o) fun j => l.getD (o + j) .any)
          | none => none
        | _ => none
  | .cl g a b => match r with
    | none => none
    | some r => match mapO r a, mapO r b with
      | some x, some y => some (.cl g x y)
      | _, _ => none
  | _ => none

/-- A value as data, where it is data (the objects ps are none). -/
def AV.pvw (ob : Nat → Option Ob) (ps : List Nat) : Nat → AV → Option PV
  | 0 => pvwStep ob ps none
  | f + 1 => pvwStep ob ps (some (AV.pvw ob ps f))
def AV.pvws (ob : Nat → Option Ob) (ps : List Nat) (f : Nat) (cs : List AV) : Option (List PV) := mapO (AV.pvw ob ps f) cs

mutual
/-- How an argument looks to a callee that is given the objects ps. -/
def AV.arg (ob : Nat → Option Ob) (ps : List Nat) : AV → Option AV
  | .p _ c => match c with
    | .v x => some (.p true (.v x))
    | c => some (.p false c)
  | .own i => match idxOf ps i with
    | some k => some (.own k)
    | none => (AV.pvw ob ps 4 (.own i)).map (.p false)
  | .adr i o => match idxOf ps i with
    | some k => some (.adr k o)
    | none => (AV.pvw ob ps 4 (.adr i o)).map (.p false)
  | .elt i e k o => match idxOf ps i with
    | some i' => some (.elt i' e k o)
    | none => none
  | .ag cs => (AV.args ob ps cs).map .ag
  | .tp cs => (AV.args ob ps cs).map .tp
  | .cl f a b => match AV.args ob ps a, AV.args ob ps b with
    | some x, some y => some (.cl f x y)
    | _, _ => none
def AV.args (ob : Nat → Option Ob) (ps : List Nat) : List AV → Option (List AV)
  | [] => some []
  | c :: cs => match AV.arg ob ps c, AV.args ob ps cs with
    | some x, some y => some (x :: y)
    | _, _ => none
end

def Ob.arg (ob : Nat → Option Ob) (ps : List Nat) : Ob → Option Ob
  | .box cs => (AV.args ob ps cs).map .box
  | .row m nn e n g hl => match hl with
    | [] => some (.row (match m with | .f => .z | m => m) nn e n g [])
    | _ => none
  | .map f n => some (.map f n)

/-- The objects that are handed over. -/
def handed (ob : Nat → Option Ob) (ps : List Nat) : Nat → List Nat → Option (List (Nat × Ob))
  | _, [] => some []
  | k, i :: l => match ob i with
    | some o => match Ob.arg ob ps o, handed ob ps (k + 1) l with
      | some o', some H => some ((k, o') :: H)
      | _, _ => none
    | none => none

/-- Are objects lent that are not handed over? -/
def lentB (ob : Nat → Option Ob) (ps : List Nat) (vs : List AV) : Bool :=
  (AV.idss vs).any (fun i => !ps.contains i) || ps.any fun i => match ob i with
    | some (.box cs) => (AV.idss cs).any fun i => !ps.contains i
    | _ => false

mutual
def AV.ren (σ : Nat → Nat) : AV → AV
  | .p fr c => .p fr c
  | .own i => .own (σ i)
  | .adr i o => .adr (σ i) o
  | .elt i e k o => .elt (σ i) e k o
  | .ag cs => .ag (AV.rens σ cs)
  | .tp cs => .tp (AV.rens σ cs)
  | .cl f a b => .cl f (AV.rens σ a) (AV.rens σ b)
def AV.rens (σ : Nat → Nat) : List AV → List AV
  | [] => []
  | c :: cs => AV.ren σ c :: AV.rens σ cs
end

def Ob.ren (σ : Nat → Nat) : Ob → Ob
  | .box cs => .box (AV.rens σ cs)
  | .row m nn e n g hl => .row m nn e n g []
  | .map f n => .map f n

def Ob.ids : Ob → List Nat
  | .box cs => AV.idss cs
  | .row _ _ _ _ _ hl => hl.map fun x => x.2.2
  | .map _ _ => []

/-- The names by which the caller knows what the callee speaks of. -/
def nameR (ps : List Nat) (d k : Nat) : Nat := match ps[k]? with
  | some i => i
  | none => nm d (k - ps.length)

def backNew (ps : List Nat) (d : Nat) : List (Nat × Ob) → Upd
  | [] => []
  | (k, o) :: r => match decide (k < ps.length) with
    | true => backNew ps d r
    | false => (nameR ps d k, some (o.ren (nameR ps d))) :: backNew ps d r
def backOld (ps : List Nat) (d : Nat) (H : List (Nat × Ob)) : Nat → List Nat → Upd
  | _, [] => []
  | k, i :: l => (i, match look H k with | some o => some (o.ren (nameR ps d)) | none => none) :: backOld ps d H (k + 1) l

/-- The changes that a callee's objects bring. -/
def backU (ps : List Nat) (d : Nat) (H : List (Nat × Ob)) : Upd := backOld ps d H 0 ps ++ backNew ps d H

def keysB (ps : List Nat) (l : List Nat) (H : List (Nat × Ob)) : Bool := l.all fun k => (look H k).isSome

/-- What is reckoned of a callee's objects. -/
def retOk (ps : List Nat) (d : Nat) (lent : Bool) (r : AV) (H : List (Nat × Ob)) : Bool :=
  nodupB (H.map Prod.fst) && H.all (fun x => decide (x.1 < ps.length + 8)) && keysB ps r.ids H && H.all (fun x => keysB ps x.2.ids H && match x.2 with | .row _ _ _ _ _ hl => hl.isEmpty | _ => true) &&
  (!lent || (r.fresh && H.all fun x => x.2.fresh))

/-- A function's contract: what it returns, and what it does to the objects that it is handed. Old memory stays as it is. -/
def PCall (P : Program) (G : List (Nat × PV)) (f : FuncId) (args : List AV) (H : List (Nat × Ob)) (R : AV → List (Nat × Ob) → Prop) : Prop :=
  (∃ fn, P.funcs[f]? = some fn ∧ fn.body.isSome = true ∧ (fn.name == "runtime.NumGoroutine") = false) ∧
  ∀ (w : World) (Z0 : Nat → Prop) (ι : Nat → Value) (ow : Nat → Option Nat) (vs : Array Value), vs.size = args.length →
    (∀ b i, ow b = some i → (look H i).isSome = true) → (∀ b, Z0 b → ow b = none) →
    (∀ i o, look H i = some o → ObOk (fun _ => False) Z0 (fun b => ow b = some i) ι w (ι i) o) →
    (∀ j c, args[j]? = some c → RepA (fun _ => False) Z0 ι w c (vs.getD j undef)) →
    (∀ g c, look G g = some c → RepP Z0 w c (.pointer (some ⟨g, 0, none⟩))) →
    Calls P f vs w (fun e w' => ∃ (x : Value) (r : AV) (H' : List (Nat × Ob)) (ι' : Nat → Value) (ow' : Nat → Option Nat), e = .returned x ∧ R r H' ∧
      (∀ i, (look H i).isSome = true → (look H' i).isSome = true → ι' i = ι i) ∧
      RepA (fun b => ow' b = none ∧ ((∃ i, ow b = some i) ∨ w.heap.size ≤ b)) (fun b => ow' b = none ∧ (Z0 b ∨ (∃ i, ow b = some i) ∨ w.heap.size ≤ b)) ι' w' r x ∧
      (∀ i o, look H' i = some o → ObOk (fun b => ow' b = none ∧ ((∃ i, ow b = some i) ∨ w.heap.size ≤ b)) (fun b => ow' b = none ∧ (Z0 b ∨ (∃ i, ow b = some i) ∨ w.heap.size ≤ b)) (fun b => ow' b = some i) ι' w' (ι' i) o) ∧
      (∀ b i, ow' b = some i → (look H' i).isSome = true ∧ ((∃ k, ow b = some k) ∨ w.heap.size ≤ b)) ∧ Ext (fun b => ∃ i, ow b = some i) w w')

/-- An object that speaks of no other. -/
def flatOb : Option Ob → Bool
  | some (.box cs) => (AV.idss cs).isEmpty
  | some (.row _ _ _ _ _ hl) => hl.isEmpty
  | some (.map _ _) => true
  | none => true
/-- The objects that are handed over are named by the arguments, and speak of no others. -/
def flatB (ob : Nat → Option Ob) (ps : List Nat) (vs : List AV) : Bool := ps.all fun i => (AV.idss vs).contains i && flatOb (ob i)

/-- A call by a contract. 'det': what comes back is one thing (asked of calls in a region that draws its order). -/
def ACall (P : Program) (G : List (Nat × PV)) (det : Bool) (ob : Nat → Option Ob) (d : Nat) (f : FuncId) (vs : List AV) (K : AV → Upd → Prop) : Prop :=
  ∃ ps cargs H, nodupB ps = true ∧ (ps.all fun i => !((List.range 8).map (nm d)).contains i) = true ∧ AV.args ob ps vs = some cargs ∧ handed ob ps 0 ps = some H ∧
    ∃ R, PCall P G f cargs H R ∧ (det = true → flatB ob ps vs = true ∧ ∃ r0 H0, R r0 H0 ∧ ∀ r H', R r H' → r = r0 ∧ H' = H0) ∧
      ∀ r H', R r H' → retOk ps d (lentB ob ps vs) r H' = true ∧ K (r.ren (nameR ps d)) (backU ps d H')

theorem rens_get (σ : Nat → Nat) : ∀ (cs : List AV) (j : Nat), (AV.rens σ cs)[j]? = (cs[j]?).map (AV.ren σ)
  | [], j => by simp [AV.rens]
  | c :: cs, 0 => by simp [AV.rens]
  | c :: cs, j + 1 => by simp [AV.rens, rens_get σ cs j]

theorem rens_length (σ : Nat → Nat) : ∀ (cs : List AV), (AV.rens σ cs).length = cs.length
  | [] => rfl
  | c :: cs => by simp [AV.rens, rens_length σ cs]

theorem idss_mem {cs : List AV} {j : Nat} {c : AV} {i : Nat} (hc : cs[j]? = some c) (hi : i ∈ c.ids) : i ∈ AV.idss cs := by
  induction cs generalizing j with
  | nil => simp at hc
  | cons d cs ih =>
    simp only [AV.idss, List.mem_append]
    cases j with
    | zero => simp at hc; subst hc; exact .inl hi
    | succ j => exact .inr (ih (by simpa using hc))

theorem RepA.ren {F F' Z Z' : Nat → Prop} {ι ι' : Nat → Value} {w : World} {σ : Nat → Nat} (hF : ∀ b, F b → b < w.heap.size → F' b) (hZ : ∀ b, Z b → b < w.heap.size → Z' b)
    {c : AV} {x : Value} (hx : RepA F Z ι w c x) (hi : ∀ k, k ∈ c.ids → ι' (σ k) = ι k) : RepA F' Z' ι' w (c.ren σ) x := by
  induction hx with
  | pt c x h => exact .pt _ _ (h.mono fun b hb hl => ⟨rfl, hF b hb hl⟩)
  | pf c x h => exact .pf _ _ (h.mono fun b hb hl => ⟨rfl, hZ b hb hl⟩)
  | own i => rw [← hi i (by simp [AV.ids])]; exact .own _
  | adr i off b h => exact .adr _ off b ((hi i (by simp [AV.ids])).trans h)
  | elt i esz k off b n cap h => exact .elt _ esz k off b n cap ((hi i (by simp [AV.ids])).trans h)
  | ag cs xs h1 h2 ih =>
    refine .ag _ xs (by rw [rens_length]; exact h1) fun j c hj => ?_
    rw [rens_get, Option.map_eq_some_iff] at hj
    obtain ⟨c', hj, rfl⟩ := hj
    exact ih j c' hj fun k hk => hi k (by simp only [AV.ids]; exact idss_mem hj hk)
  | tp cs xs h1 h2 ih =>
    refine .tp _ xs (by rw [rens_length]; exact h1) fun j c hj => ?_
    rw [rens_get, Option.map_eq_some_iff] at hj
    obtain ⟨c', hj, rfl⟩ := hj
    exact ih j c' hj fun k hk => hi k (by simp only [AV.ids]; exact idss_mem hj hk)
  | cl f first caps fs cs h1 h2 h3 h4 ih3 ih4 =>
    refine .cl f _ _ fs cs (by rw [rens_length]; exact h1) (by rw [rens_length]; exact h2) (fun j c hj => ?_) (fun j c hj => ?_)
    · rw [rens_get, Option.map_eq_some_iff] at hj
      obtain ⟨c', hj, rfl⟩ := hj
      exact ih3 j c' hj fun k hk => hi k (by simp only [AV.ids, List.mem_append]; exact .inl (idss_mem hj hk))
    · rw [rens_get, Option.map_eq_some_iff] at hj
      obtain ⟨c', hj, rfl⟩ := hj
      exact ih4 j c' hj fun k hk => hi k (by simp only [AV.ids, List.mem_append]; exact .inr (idss_mem hj hk))

theorem rep_p {F Z : Nat → Prop} {ι : Nat → Value} {w : World} {fr : Bool} {c : PV} {y : Value} : RepA F Z ι w (.p fr c) y ↔ RepP (if fr then F else Z) w c y := by
  cases fr
  · exact ⟨fun h => by cases h; assumption, fun h => .pf _ _ h⟩
  · exact ⟨fun h => by cases h; assumption, fun h => .pt _ _ h⟩

theorem rep_v {F Z : Nat → Prop} {ι : Nat → Value} {w : World} {fr : Bool} {x y : Value} (h : RepA F Z ι w (.p fr (.v x)) y) : y = x := by
  cases h with
  | pt _ _ h => cases h; rfl
  | pf _ _ h => cases h; rfl

theorem rep_mkv {F Z : Nat → Prop} {ι : Nat → Value} {w : World} (x : Value) : RepA F Z ι w (.p true (.v x)) x := .pt _ _ (.v x)

theorem rep_mk {F Z : Nat → Prop} {ι : Nat → Value} {w : World} {fr : Bool} {c : PV} {y : Value} (h : RepP (if fr then F else Z) w c y) : RepA F Z ι w (AV.mk fr c) y := by
  unfold AV.mk
  split
  · cases h; exact rep_mkv _
  · exact rep_p.2 h

theorem look_setOb_ne {s : St} {i j : Nat} {o : Ob} (h : i ≠ j) : (s.setOb i o).obj j = s.obj j := by rw [St.obj_setOb, if_neg h]

/-- What object i is behind changes. -/
def updO (ob : Nat → Option Ob) : Upd → Nat → Option Ob
  | [], i => ob i
  | (k, o) :: u, i => updO (fun j => if k = j then o else ob j) u i

theorem obj_upd (u : Upd) : ∀ (s : St) (i : Nat), (s.upd u).obj i = updO s.obj u i := by
  induction u with
  | nil => intro s i; rfl
  | cons x u ih =>
    intro s i
    obtain ⟨k, o⟩ := x
    cases o with
    | none =>
      simp only [St.upd, updO]
      rw [ih]
      congr 1
      funext j
      rw [St.obj_delOb]
    | some o =>
      simp only [St.upd, updO]
      rw [ih]
      congr 1
      funext j
      rw [St.obj_setOb]

theorem get_upd (u : Upd) (s : St) (t : Nat) : (s.upd u).get t = s.get t := by
  simp only [St.get, env_upd]

theorem updO_out (u : Upd) : ∀ (ob : Nat → Option Ob) (i : Nat), i ∉ u.map Prod.fst → updO ob u i = ob i := by
  induction u with
  | nil => intro ob i h; rfl
  | cons x u ih =>
    intro ob i h
    obtain ⟨k, o⟩ := x
    simp only [List.map_cons, List.mem_cons, not_or] at h
    simp only [updO]
    rw [ih _ i h.2]
    have : k ≠ i := fun e => h.1 e.symm
    simp [this]

theorem updO_append (u v : Upd) : ∀ (ob : Nat → Option Ob) (i : Nat), updO ob (u ++ v) i = updO (updO ob u) v i := by
  induction u with
  | nil => intro ob i; rfl
  | cons x u ih =>
    intro ob i
    obtain ⟨k, o⟩ := x
    simp only [List.cons_append, updO]
    exact ih _ i

theorem updO_congr (u : Upd) : ∀ (ob ob' : Nat → Option Ob) (i : Nat), ob i = ob' i → updO ob u i = updO ob' u i := by
  induction u with
  | nil => intro ob ob' i h; exact h
  | cons x u ih =>
    intro ob ob' i h
    obtain ⟨k, o⟩ := x
    simp only [updO]
    refine ih _ _ i ?_
    by_cases e : k = i <;> simp [e, h]

theorem updO_in (u : Upd) : ∀ (ob ob' : Nat → Option Ob) (i : Nat), i ∈ u.map Prod.fst → updO ob u i = updO ob' u i := by
  induction u with
  | nil => intro ob ob' i h; simp at h
  | cons x u ih =>
    intro ob ob' i h
    obtain ⟨k, o⟩ := x
    simp only [updO]
    by_cases e : i ∈ u.map Prod.fst
    · exact ih _ _ i e
    · simp only [List.map_cons, List.mem_cons] at h
      have : i = k := h.resolve_right e
      subst this
      rw [updO_out _ _ _ e, updO_out _ _ _ e]
      simp

/-- Changes with different names: each holds. -/
theorem updO_mem : ∀ (u : Upd) (ob : Nat → Option Ob) (i : Nat) (o : Option Ob), (u.map Prod.fst).Nodup → (i, o) ∈ u → updO ob u i = o
  | (k, o') :: u, ob, i, o, hn, h => by
    simp only [List.map_cons, List.nodup_cons] at hn
    simp only [updO]
    rcases List.mem_cons.1 h with e | h
    · cases e
      rw [updO_out _ _ _ hn.1]
      simp
    · exact updO_mem u _ i o hn.2 h
end Go.Gw
