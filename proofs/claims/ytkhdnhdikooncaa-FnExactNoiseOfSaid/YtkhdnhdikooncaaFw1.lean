/- Abstract values, and what it means that a value in memory represents one; with no condition. -/
import Derived.Orders
import Derived.Laws.World
import Derived.Laws.Sem
import Derived.Below
namespace Go.Fw
set_option linter.unusedVariables false
set_option linter.unusedSimpArgs false
open Go

/-- A pure value: plain data that nobody writes. 'sl nn esz n g': a slice of n elements of esz cells each, cell j of element i is g i j ('nn': it is not nil). 'pp m h': the address of m cells. -/
inductive PV where
  | v (x : Value)
  | sl (nn : Bool) (esz n : Nat) (g : Nat → Nat → PV)
  | pp (m : Nat) (h : Nat → PV)
  | cl (f : FuncId) (first caps : List PV)
  | any

instance : Inhabited PV := ⟨.any⟩

inductive RepP (Z : Nat → Prop) (w : World) : PV → Value → Prop
  | v (x) : RepP Z w (.v x) x
  | any (x) : RepP Z w .any x
  | nil (esz : Nat) (g : Nat → Nat → PV) : RepP Z w (.sl false esz 0 g) (.slice none 0 0)
  | sl (nn : Bool) (esz n : Nat) (g : Nat → Nat → PV) (b off cap : Nat) (val : Nat → Nat → Value)
      (hc : ∀ i j, i < n → j < esz → w.cell? ⟨b, off + i * esz + j, none⟩ = some (val i j))
      (hr : ∀ i j, i < n → j < esz → RepP Z w (g i j) (val i j))
      (hz : ∀ i j, i < n → j < esz → Z b)
      (hcap : n ≤ cap) :
      RepP Z w (.sl nn esz n g) (.slice (some ⟨b, off, none⟩) n cap)
  | pp (m : Nat) (h : Nat → PV) (b off : Nat) (val : Nat → Value)
      (hc : ∀ j, j < m → w.cell? ⟨b, off + j, none⟩ = some (val j))
      (hr : ∀ j, j < m → RepP Z w (h j) (val j))
      (hz : ∀ j, j < m → Z b) :
      RepP Z w (.pp m h) (.pointer (some ⟨b, off, none⟩))
  | cl (f : FuncId) (first caps : List PV) (fs cs : Array Value)
      (h1 : fs.size = first.length) (h2 : cs.size = caps.length)
      (h3 : ∀ j c, first[j]? = some c → RepP Z w c (fs.getD j undef))
      (h4 : ∀ j c, caps[j]? = some c → RepP Z w c (cs.getD j undef)) :
      RepP Z w (.cl f first caps) (.func (.func f) fs cs)

theorem RepP.mono {Z Z' : Nat → Prop} {w w' : World} (h : ∀ b, Z b → b < w.heap.size → w'.heap[b]? = w.heap[b]? ∧ Z' b)
    {c : PV} {x : Value} (hx : RepP Z w c x) : RepP Z' w' c x := by
  induction hx with
  | v x => exact .v x
  | any x => exact .any x
  | nil esz g => exact .nil esz g
  | sl nn esz n g b off cap val hc hr hz hcap ih =>
    refine .sl nn esz n g b off cap val ?_ ih ?_ hcap
    · intro i j hi hj
      rw [World.cell?_of_block (h b (hz i j hi hj) (World.block_lt_of_cell? _ _ (hc i j hi hj))).1]
      exact hc i j hi hj
    · intro i j hi hj
      exact (h b (hz i j hi hj) (World.block_lt_of_cell? _ _ (hc i j hi hj))).2
  | pp m h' b off val hc hr hz ih =>
    refine .pp m h' b off val ?_ ih ?_
    · intro j hj
      rw [World.cell?_of_block (h b (hz j hj) (World.block_lt_of_cell? _ _ (hc j hj))).1]
      exact hc j hj
    · intro j hj
      exact (h b (hz j hj) (World.block_lt_of_cell? _ _ (hc j hj))).2
  | cl f first caps fs cs h1 h2 h3 h4 ih3 ih4 => exact .cl f first caps fs cs h1 h2 ih3 ih4

/-- The same data, cell by cell. -/
inductive PV.Le : PV → PV → Prop
  | refl (c) : PV.Le c c
  | any (c) : PV.Le c .any
  | sl (nn nn' : Bool) (hn : nn' = true → nn = true) (esz n n' : Nat) (g g' : Nat → Nat → PV) (e : n = n') (h : ∀ i j, i < n → j < esz → PV.Le (g i j) (g' i j)) : PV.Le (.sl nn esz n g) (.sl nn' esz n' g')
  | pp (m : Nat) (h h' : Nat → PV) (e : ∀ j, j < m → PV.Le (h j) (h' j)) : PV.Le (.pp m h) (.pp m h')

theorem RepP.le {Z : Nat → Prop} {w : World} {c d : PV} (h : PV.Le c d) : ∀ {x : Value}, RepP Z w c x → RepP Z w d x := by
  induction h with
  | refl c => exact fun h => h
  | any c => exact fun {x} _ => .any x
  | sl nn nn' hn esz n n' g g' e h ih =>
    subst e
    intro x hx
    cases hx with
    | nil =>
      cases nn' with
      | false => exact .nil _ _
      | true => exact absurd (hn rfl) (by simp)
    | sl _ _ _ _ b off cap val hc hr hz hcap => exact .sl _ _ _ _ b off cap val hc (fun i j hi hj => ih i j hi hj (hr i j hi hj)) hz hcap
  | pp m h h' e ih =>
    intro x hx
    cases hx with
    | pp _ _ b off val hc hr hz => exact .pp _ _ b off val hc (fun j hj => ih j hj (hr j hj)) hz

/-- An abstract value of a slot: pure data ('fr': made by this call), or a handle of an object of this call's own. -/
inductive AV where
  | p (fr : Bool) (c : PV)
  | own (i : Nat)
  | adr (i off : Nat)
  | elt (i esz k off : Nat)
  | ag (cs : List AV)
  | tp (cs : List AV)
  | cl (f : FuncId) (first caps : List AV)

instance : Inhabited AV := ⟨.p false .any⟩

inductive RepA (F Z : Nat → Prop) (ι : Nat → Value) (w : World) : AV → Value → Prop
  | pt (c x) (h : RepP F w c x) : RepA F Z ι w (.p true c) x
  | pf (c x) (h : RepP Z w c x) : RepA F Z ι w (.p false c) x
  | own (i) : RepA F Z ι w (.own i) (ι i)
  | adr (i off b) (h : ι i = .pointer (some ⟨b, 0, none⟩)) : RepA F Z ι w (.adr i off) (.pointer (some ⟨b, off, none⟩))
  | elt (i esz k off b n cap) (h : ι i = .slice (some ⟨b, 0, none⟩) n cap) : RepA F Z ι w (.elt i esz k off) (.pointer (some ⟨b, k * esz + off, none⟩))
  | ag (cs : List AV) (xs : Array Value) (h1 : xs.size = cs.length) (h2 : ∀ j c, cs[j]? = some c → RepA F Z ι w c (xs.getD j undef)) : RepA F Z ι w (.ag cs) (.agg xs)
  | tp (cs : List AV) (xs : Array Value) (h1 : xs.size = cs.length) (h2 : ∀ j c, cs[j]? = some c → RepA F Z ι w c (xs.getD j undef)) : RepA F Z ι w (.tp cs) (.tuple xs)
  | cl (f : FuncId) (first caps : List AV) (fs cs : Array Value) (h1 : fs.size = first.length) (h2 : cs.size = caps.length)
      (h3 : ∀ j c, first[j]? = some c → RepA F Z ι w c (fs.getD j undef)) (h4 : ∀ j c, caps[j]? = some c → RepA F Z ι w c (cs.getD j undef)) :
      RepA F Z ι w (.cl f first caps) (.func (.func f) fs cs)

mutual
/-- The value does not speak of object i. -/
def AV.noid (i : Nat) : AV → Bool
  | .p _ _ => true
  | .own j => j != i
  | .adr j _ => j != i
  | .elt j _ _ _ => j != i
  | .ag cs => AV.noids i cs
  | .tp cs => AV.noids i cs
  | .cl _ a b => AV.noids i a && AV.noids i b
def AV.noids (i : Nat) : List AV → Bool
  | [] => true
  | c :: cs => AV.noid i c && AV.noids i cs
end

theorem noids_get {i : Nat} : ∀ {cs : List AV} {j : Nat} {c : AV}, AV.noids i cs = true → cs[j]? = some c → c.noid i = true
  | [], _, _, _, h => by simp at h
  | d :: cs, 0, c, h, e => by
    simp only [AV.noids, Bool.and_eq_true] at h
    simp only [List.getElem?_cons_zero, Option.some.injEq] at e
    exact e ▸ h.1
  | d :: cs, j + 1, c, h, e => by
    simp only [AV.noids, Bool.and_eq_true] at h
    exact noids_get h.2 (by simpa using e)

theorem RepA.mono {F F' Z Z' : Nat → Prop} {ι ι' : Nat → Value} {w w' : World}
    (hF : ∀ b, F b → b < w.heap.size → w'.heap[b]? = w.heap[b]? ∧ F' b)
    (hZ : ∀ b, Z b → b < w.heap.size → w'.heap[b]? = w.heap[b]? ∧ Z' b)
    {c : AV} {x : Value} (hx : RepA F Z ι w c x) (hi : ∀ i, c.noid i = false → ι' i = ι i) : RepA F' Z' ι' w' c x := by
  induction hx with
  | pt c x h => exact .pt _ _ (h.mono hF)
  | pf c x h => exact .pf _ _ (h.mono hZ)
  | own i => rw [← hi i (by simp [AV.noid])]; exact .own i
  | adr i off b h => exact .adr i off b ((hi i (by simp [AV.noid])).trans h)
  | elt i esz k off b n cap h => exact .elt i esz k off b n cap ((hi i (by simp [AV.noid])).trans h)
  | ag cs xs h1 h2 ih =>
    refine .ag cs xs h1 fun j c hj => ih j c hj fun i hc => hi i ?_
    cases h : AV.noid i (.ag cs) with
    | false => rfl
    | true => simp only [AV.noid] at h; rw [noids_get h hj] at hc; cases hc
  | tp cs xs h1 h2 ih =>
    refine .tp cs xs h1 fun j c hj => ih j c hj fun i hc => hi i ?_
    cases h : AV.noid i (.tp cs) with
    | false => rfl
    | true => simp only [AV.noid] at h; rw [noids_get h hj] at hc; cases hc
  | cl f first caps fs cs h1 h2 h3 h4 ih3 ih4 =>
    refine .cl f first caps fs cs h1 h2 (fun j c hj => ih3 j c hj fun i hc => hi i ?_) (fun j c hj => ih4 j c hj fun i hc => hi i ?_)
    · cases h : AV.noid i (.cl f first caps) with
      | false => rfl
      | true => simp only [AV.noid, Bool.and_eq_true] at h; rw [noids_get h.1 hj] at hc; cases hc
    · cases h : AV.noid i (.cl f first caps) with
      | false => rfl
      | true => simp only [AV.noid, Bool.and_eq_true] at h; rw [noids_get h.2 hj] at hc; cases hc

/-- An object of the call's own: a variable's cells, or a slice with pure elements ('fr': all of them made by this call). -/
inductive Ob where
  | box (cs : List AV)
  | row (fr : Bool) (esz n : Nat) (g : Nat → Nat → PV)

def Ob.noid (i : Nat) : Ob → Bool
  | .box cs => AV.noids i cs
  | .row _ _ _ _ => true

def blk : Value → Option Nat
  | .pointer (some a) => some a.block
  | .slice (some a) _ _ => some a.block
  | _ => none

def ObOk (F Z : Nat → Prop) (ι : Nat → Value) (w : World) (x : Value) : Ob → Prop
  | .box cs => ∃ b c t, x = .pointer (some ⟨b, 0, none⟩) ∧ w.heap[b]? = some (.cells c t (0, 0)) ∧ c.size = cs.length ∧
      ∀ j cc, cs[j]? = some cc → RepA F Z ι w cc (c.getD j undef)
  | .row fr esz n g => (x = .slice none 0 0 ∧ n = 0) ∨
      ∃ b cap c t, x = .slice (some ⟨b, 0, none⟩) n cap ∧ w.heap[b]? = some (.cells c t (0, 0)) ∧ n ≤ cap ∧ cap * esz ≤ c.size ∧
        ∀ i j, i < n → j < esz → RepP (if fr then F else Z) w (g i j) (c.getD (i * esz + j) undef)

/-- Old memory is as it was, but for the blocks D. -/
structure Ext (D : Nat → Prop) (w w' : World) : Prop where
  os : w'.os = w.os
  tape : w'.tape = w.tape
  output : w'.output = w.output
  size : w.heap.size ≤ w'.heap.size
  block : ∀ b, b < w.heap.size → ¬ D b → w'.heap[b]? = w.heap[b]?

theorem Ext.refl (D : Nat → Prop) (w : World) : Ext D w w := ⟨rfl, rfl, rfl, Nat.le_refl _, fun _ _ _ => rfl⟩

theorem Ext.trans {D D' : Nat → Prop} {a b c : World} (h : Ext D a b) (k : Ext D' b c) (hd : ∀ x, x < a.heap.size → D' x → D x) : Ext D a c :=
  ⟨k.os.trans h.os, k.tape.trans h.tape, k.output.trans h.output, Nat.le_trans h.size k.size,
   fun i hi hn => (k.block i (Nat.lt_of_lt_of_le hi h.size) (fun hh => hn (hd i hi hh))).trans (h.block i hi hn)⟩

def look {α : Type} : List (Nat × α) → Nat → Option α
  | [], _ => none
  | (u, c) :: r, t => if u = t then some c else look r t

def ins {α : Type} : List (Nat × α) → Nat → α → List (Nat × α)
  | [], t, c => [(t, c)]
  | (u, d) :: r, t, c => if u = t then (t, c) :: r else (u, d) :: ins r t c

def del {α : Type} : List (Nat × α) → Nat → List (Nat × α)
  | [], _ => []
  | (u, d) :: r, t => if u = t then del r t else (u, d) :: del r t

theorem look_ins {α : Type} (l : List (Nat × α)) (t u : Nat) (c : α) : look (ins l t c) u = if t = u then some c else look l u := by
  induction l with
  | nil => simp [ins, look]
  | cons x r ih =>
    obtain ⟨y, d⟩ := x
    simp only [ins]
    by_cases h : y = t
    · simp only [h, if_true, look]
      by_cases h2 : t = u <;> simp [h2]
    · simp only [h, if_false, look, ih]
      by_cases h2 : y = u
      · have : t ≠ u := fun e => h (h2.trans e.symm)
        simp [h2, this]
      · simp [h2]

theorem look_del {α : Type} (l : List (Nat × α)) (t u : Nat) : look (del l t) u = if t = u then none else look l u := by
  induction l with
  | nil => simp [del, look]
  | cons x r ih =>
    obtain ⟨y, d⟩ := x
    simp only [del]
    by_cases h : y = t
    · simp only [h, if_true, look, ih]
      by_cases h2 : t = u <;> simp [h2]
    · simp only [h, if_false, look, ih]
      by_cases h2 : y = u
      · have : t ≠ u := fun e => h (h2.trans e.symm)
        simp [h2, this]
      · simp [h2]

structure St where
  env : List (Nat × AV)
  H : List (Nat × Ob)

def St.get (s : St) (t : Nat) : AV := (look s.env t).getD (.p false .any)
def St.put (s : St) (t : Nat) (c : AV) : St := { s with env := ins s.env t c }
def St.putD (s : St) (t : Option Nat) (c : AV) : St := match t with | some t => s.put t c | none => s
def St.obj (s : St) (i : Nat) : Option Ob := look s.H i
def St.setOb (s : St) (i : Nat) (o : Ob) : St := { s with H := ins s.H i o }
def St.delOb (s : St) (i : Nat) : St := { s with H := del s.H i }
/-- No slot and no object speaks of object i. -/
def St.noid (s : St) (i : Nat) : Prop := (∀ t, (s.get t).noid i = true) ∧ (∀ j o, s.obj j = some o → o.noid i = true)

structure Cx where
  w0 : World
  Z0 : Nat → Prop
  D0 : Nat → Prop
  n : Nat
  G : List (Nat × PV)

def inH (ι : Nat → Value) (s : St) (b : Nat) : Prop := ∃ i o, s.obj i = some o ∧ blk (ι i) = some b
def zF (cx : Cx) (ι : Nat → Value) (s : St) (b : Nat) : Prop := (cx.D0 b ∨ cx.w0.heap.size ≤ b) ∧ ¬ inH ι s b
def zZ (cx : Cx) (ι : Nat → Value) (s : St) (b : Nat) : Prop := (cx.Z0 b ∨ cx.D0 b ∨ cx.w0.heap.size ≤ b) ∧ ¬ inH ι s b

structure Models (cx : Cx) (ι : Nat → Value) (s : St) (a : Act) (w : World) : Prop where
  defers : a.defers = []
  size : a.tmps.size = cx.n
  env : ∀ t, RepA (zF cx ι s) (zZ cx ι s) ι w (s.get t) (a.tmps.getD t undef)
  obs : ∀ i o, s.obj i = some o → ObOk (zF cx ι s) (zZ cx ι s) ι w (ι i) o
  dj : ∀ i o j o' b, s.obj i = some o → s.obj j = some o' → blk (ι i) = some b → blk (ι j) = some b → i = j
  new : ∀ b, inH ι s b → cx.D0 b ∨ cx.w0.heap.size ≤ b
  ext : Ext cx.D0 cx.w0 w
  gl : ∀ g c, look cx.G g = some c → RepP (zZ cx ι s) w c (.pointer (some ⟨g, 0, none⟩))

end Go.Fw
