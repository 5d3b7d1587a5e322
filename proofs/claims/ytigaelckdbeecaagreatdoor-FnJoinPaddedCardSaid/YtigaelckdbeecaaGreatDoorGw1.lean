/- Abstract values, owned memory, and what it means that a state describes a world; with no condition. -/
import Derived.Orders
import Derived.Laws.World
import Derived.Laws.Sem
import Derived.Below
namespace Go.Gw
set_option linter.unusedVariables false
set_option linter.unusedSimpArgs false
open Go
inductive PV where
  | v (x : Value)
  | sl (nn : Bool) (esz n : Nat) (g : Nat → Nat → PV)
  | pp (m : Nat) (h : Nat → PV)
  | cl (f : FuncId) (first caps : List PV)
  | nm (x : Value) (c : PV)
  | any
instance : Inhabited PV := ⟨.any⟩
inductive RepP (Z : Nat → Prop) (w : World) : PV → Value → Prop
  | v (x) : RepP Z w (.v x) x
  | any (x) : RepP Z w .any x
  | nil (esz : Nat) (g : Nat → Nat → PV) : RepP Z w (.sl false esz 0 g) (.slice none 0 0)
  | emp (nn : Bool) (esz : Nat) (g : Nat → Nat → PV) (a : Addr) (cap : Nat) : RepP Z w (.sl nn esz 0 g) (.slice (some a) 0 cap)
  | sl (nn : Bool) (esz n : Nat) (g : Nat → Nat → PV) (b off cap : Nat) (val : Nat → Nat → Value)
      (hc : ∀ i j, i < n → j < esz → w.cell? ⟨b, off + i * esz + j, none⟩ = some (val i j))
      (hr : ∀ i j, i < n → j < esz → RepP Z w (g i j) (val i j))
      (hz : ∀ i j, i < n → j < esz → Z b)
      (hcap : n ≤ cap) :
      RepP Z w (.sl nn esz n g) (.slice (some ⟨b, off, none⟩) n cap)
  | pp (m : Nat) (h : Nat → PV) (b off : Nat) (val : Nat → Value)
      (hc : ∀ j, j < m → w.cell? ⟨b, off + j, none⟩ = some (val j))
      (hr : ∀ j, j < m → RepP Z w (h j) (val j))
      (hz : ∀ j, j < m → Z b) :
      RepP Z w (.pp m h) (.pointer (some ⟨b, off, none⟩))
  | cl (f : FuncId) (first caps : List PV) (fs cs : Array Value)
      (h1 : fs.size = first.length) (h2 : cs.size = caps.length)
      (h3 : ∀ j c, first[j]? = some c → RepP Z w c (fs.getD j undef))
      (h4 : ∀ j c, caps[j]? = some c → RepP Z w c (cs.getD j undef)) :
      RepP Z w (.cl f first caps) (.func (.func f) fs cs)
  | nm (x c) (h : RepP Z w c x) : RepP Z w (.nm x c) x
theorem RepP.mono {Z Z' : Nat → Prop} {w w' : World} (h : ∀ b, Z b → b < w.heap.size → w'.heap[b]? = w.heap[b]? ∧ Z' b)
    {c : PV} {x : Value} (hx : RepP Z w c x) : RepP Z' w' c x := by
  induction hx with
  | v x => exact .v x
  | any x => exact .any x
  | nil esz g => exact .nil esz g
  | emp nn esz g a cap => exact .emp nn esz g a cap
  | nm x c _ ih => exact .nm x c ih
  | sl nn esz n g b off cap val hc hr hz hcap ih =>
    refine .sl nn esz n g b off cap val ?_ ih ?_ hcap
    · intro i j hi hj
      rw [World.cell?_of_block (h b (hz i j hi hj) (World.block_lt_of_cell? _ _ (hc i j hi hj))).1]
      exact hc i j hi hj
    · intro i j hi hj
      exact (h b (hz i j hi hj) (World.block_lt_of_cell? _ _ (hc i j hi hj))).2
  | pp m h' b off val hc hr hz ih =>
    refine .pp m h' b off val ?_ ih ?_
    · intro j hj
      rw [World.cell?_of_block (h b (hz j hj) (World.block_lt_of_cell? _ _ (hc j hj))).1]
      exact hc j hj
    · intro j hj
      exact (h b (hz j hj) (World.block_lt_of_cell? _ _ (hc j hj))).2
  | cl f first caps fs cs h1 h2 h3 h4 ih3 ih4 => exact .cl f first caps fs cs h1 h2 ih3 ih4
inductive PV.Le : PV → PV → Prop
  | refl (c) : PV.Le c c
  | any (c) : PV.Le c .any
  | nil (esz g) : PV.Le (.v (.slice none 0 0)) (.sl false esz 0 g)
  | nm (x c d) (h : PV.Le c d) : PV.Le (.nm x c) d
  | nms (x c d) (h : PV.Le c d) : PV.Le (.nm x c) (.nm x d)
  | sl (nn nn' : Bool) (hn : nn' = true → nn = true) (esz n n' : Nat) (g g' : Nat → Nat → PV) (e : n = n') (h : ∀ i j, i < n → j < esz → PV.Le (g i j) (g' i j)) : PV.Le (.sl nn esz n g) (.sl nn' esz n' g')
  | pp (m : Nat) (h h' : Nat → PV) (e : ∀ j, j < m → PV.Le (h j) (h' j)) : PV.Le (.pp m h) (.pp m h')
  | cl (f : FuncId) (a b a' b' : List PV) (h1 : a.length = a'.length) (h2 : b.length = b'.length) (h3 : ∀ (j : Nat) (c d : PV), a[j]? = some c → a'[j]? = some d → PV.Le c d)
      (h4 : ∀ (j : Nat) (c d : PV), b[j]? = some c → b'[j]? = some d → PV.Le c d) : PV.Le (.cl f a b) (.cl f a' b')
theorem RepP.le {Z : Nat → Prop} {w : World} {c d : PV} (h : PV.Le c d) : ∀ {x : Value}, RepP Z w c x → RepP Z w d x := by
  induction h with
  | refl c => exact fun h => h
  | any c => exact fun {x} _ => .any x
  | nil esz g => intro x hx; cases hx; exact .nil _ _
  | nm y c d h ih => intro x hx; cases hx with | nm _ _ hx => exact ih hx
  | nms y c d h ih => intro x hx; cases hx with | nm _ _ hx => exact .nm _ _ (ih hx)
  | sl nn nn' hn esz n n' g g' e h ih =>
    subst e
    intro x hx
    cases hx with
    | nil =>
      cases nn' with
      | false => exact .nil _ _
      | true => exact absurd (hn rfl) (by simp)
    | emp _ _ _ a cap => exact .emp _ _ _ a cap
    | sl _ _ _ _ b off cap val hc hr hz hcap => exact .sl _ _ _ _ b off cap val hc (fun i j hi hj => ih i j hi hj (hr i j hi hj)) hz hcap
  | pp m h h' e ih =>
    intro x hx
    cases hx with
    | pp _ _ b off val hc hr hz => exact .pp _ _ b off val hc (fun j hj => ih j hj (hr j hj)) hz
  | cl f a b a' b' h1 h2 h3 h4 ih3 ih4 =>
    intro x hx
    cases hx with
    | cl _ _ _ fs cs k1 k2 k3 k4 =>
      refine .cl _ _ _ fs cs (k1.trans h1) (k2.trans h2) (fun j d hj => ?_) (fun j d hj => ?_)
      · have hlt : j < a.length := by rw [h1]; exact (List.getElem?_eq_some_iff.1 hj).1
        exact ih3 j _ d (List.getElem?_eq_getElem hlt) hj (k3 j _ (List.getElem?_eq_getElem hlt))
      · have hlt : j < b.length := by rw [h2]; exact (List.getElem?_eq_some_iff.1 hj).1
        exact ih4 j _ d (List.getElem?_eq_getElem hlt) hj (k4 j _ (List.getElem?_eq_getElem hlt))
inductive RepU (w : World) : (Nat → Prop) → PV → Value → Prop
  | v (S x) : RepU w S (.v x) x
  | any (S x) : RepU w S .any x
  | nil (S) (esz : Nat) (g : Nat → Nat → PV) : RepU w S (.sl false esz 0 g) (.slice none 0 0)
  | emp (S) (nn : Bool) (esz : Nat) (g : Nat → Nat → PV) (b off : Nat) : RepU w S (.sl nn esz 0 g) (.slice (some ⟨b, off, none⟩) 0 0)
  | sl (S) (nn : Bool) (esz n : Nat) (g : Nat → Nat → PV) (b cap : Nat) (c : Array Value) (t : TypeId) (q : Nat → Option (Nat × Nat))
      (hS : S b) (hb : w.heap[b]? = some (.cells c t (0, 0))) (hn : n ≤ cap) (hc : cap * esz ≤ c.size) (hq : q b = none)
      (h : ∀ i j, i < n → j < esz → RepU w (fun k => S k ∧ q k = some (i, j)) (g i j) (c.getD (i * esz + j) undef)) :
      RepU w S (.sl nn esz n g) (.slice (some ⟨b, 0, none⟩) n cap)
  | nm (S x c) (h : RepU w S c x) : RepU w S (.nm x c) x
theorem heap_lt {w : World} {b : Nat} {o : Obj} (h : w.heap[b]? = some o) : b < w.heap.size := by
  rcases Nat.lt_or_ge b w.heap.size with h' | h'
  · exact h'
  · simp [Array.getElem?_eq_none h'] at h
theorem RepU.mono {w w' : World} {S : Nat → Prop} {c : PV} {x : Value} (hx : RepU w S c x) : ∀ {S' : Nat → Prop}, (∀ b, S b → b < w.heap.size → w'.heap[b]? = w.heap[b]? ∧ S' b) → RepU w' S' c x := by
  induction hx with
  | v S x => intro S' _; exact .v _ _
  | any S x => intro S' _; exact .any _ _
  | nil S esz g => intro S' _; exact .nil _ _ _
  | emp S nn esz g b off => intro S' _; exact .emp _ _ _ _ _ _
  | sl S nn esz n g b cap c t q hS hb hn hc hq h ih =>
    intro S' hs
    have h0 := hs b hS (heap_lt hb)
    refine .sl _ nn esz n g b cap c t q h0.2 (h0.1.trans hb) hn hc hq fun i j hi hj => ih i j hi hj ?_
    rintro k ⟨hk, hqk⟩ hl
    exact ⟨(hs k hk hl).1, (hs k hk hl).2, hqk⟩
  | nm S x c h ih => intro S' hs; exact .nm _ _ _ (ih hs)
theorem cell_of_row {w : World} {b : Nat} {c : Array Value} {t : TypeId} (h : w.heap[b]? = some (.cells c t (0, 0))) {k : Nat} (hk : k < c.size) :
    w.cell? ⟨b, k, none⟩ = some (c.getD k undef) := by
  simp [World.cell?, h, Array.getD_eq_getD_getElem?, hk]
theorem idx_lt {i j n esz : Nat} (hi : i < n) (hj : j < esz) : i * esz + j < n * esz := by
  have : i * esz + esz ≤ n * esz := by rw [← Nat.succ_mul]; exact Nat.mul_le_mul_right _ hi
  omega
theorem RepU.toP {w : World} {S : Nat → Prop} {c : PV} {x : Value} (hx : RepU w S c x) : ∀ {Z : Nat → Prop}, (∀ b, S b → b < w.heap.size → Z b) → RepP Z w c x := by
  induction hx with
  | v S x => intro Z _; exact .v _
  | any S x => intro Z _; exact .any _
  | nil S esz g => intro Z _; exact .nil _ _
  | emp S nn esz g b off => intro Z _; exact .sl _ _ _ _ b off 0 (fun _ _ => undef) (fun i j hi => by omega) (fun i j hi => by omega) (fun i j hi => by omega) (Nat.le_refl _)
  | sl S nn esz n g b cap c t q hS hb hn hc hq h ih =>
    intro Z hs
    refine .sl nn esz n g b 0 cap (fun i j => c.getD (i * esz + j) undef) (fun i j hi hj => ?_) (fun i j hi hj => ih i j hi hj fun k hk hl => hs k hk.1 hl) (fun i j hi hj => hs b hS (heap_lt hb)) hn
    have := idx_lt hi hj
    have := Nat.mul_le_mul_right esz hn
    rw [Nat.zero_add]
    exact cell_of_row hb (by omega)
  | nm S x c h ih => intro Z hs; exact .nm _ _ (ih hs)
theorem RepU.le {w : World} {c d : PV} (h : PV.Le c d) : ∀ {S : Nat → Prop} {x : Value}, RepU w S c x → RepU w S d x := by
  induction h with
  | refl c => exact fun h => h
  | any c => exact fun {S x} _ => .any S x
  | nil esz g => intro S x hx; cases hx; exact .nil _ _ _
  | nm y c d h ih => intro S x hx; cases hx with | nm _ _ _ hx => exact ih hx
  | nms y c d h ih => intro S x hx; cases hx with | nm _ _ _ hx => exact .nm _ _ _ (ih hx)
  | sl nn nn' hn esz n n' g g' e h ih =>
    subst e
    intro S x hx
    cases hx with
    | nil =>
      cases nn' with
      | false => exact .nil _ _ _
      | true => exact absurd (hn rfl) (by simp)
    | emp _ _ _ _ b off => exact .emp _ _ _ _ b off
    | sl _ _ _ _ _ b cap c t q hS hb hn hc hq hr => exact .sl _ _ _ _ _ b cap c t q hS hb hn hc hq (fun i j hi hj => ih i j hi hj (hr i j hi hj))
  | pp m h h' e ih => intro S x hx; cases hx
  | cl f a b a' b' h1 h2 h3 h4 ih3 ih4 => intro S x hx; cases hx
inductive AV where
  | p (fr : Bool) (c : PV)
  | own (i : Nat)
  | adr (i off : Nat)
  | elt (i esz k off : Nat)
  | vw (i esz k : Nat)
  | ag (cs : List AV)
  | tp (cs : List AV)
  | cl (f : FuncId) (first caps : List AV)
instance : Inhabited AV := ⟨.p false .any⟩
def viewV (esz k : Nat) : Value → Value
  | .slice p n cap => .slice (if cap = k then p else p.map (·.add (k * esz))) (n - k) (cap - k)
  | x => x
inductive RepA (F Z : Nat → Prop) (ι : Nat → Value) (w : World) : AV → Value → Prop
  | pt (c x) (h : RepP F w c x) : RepA F Z ι w (.p true c) x
  | pf (c x) (h : RepP Z w c x) : RepA F Z ι w (.p false c) x
  | own (i) : RepA F Z ι w (.own i) (ι i)
  | adr (i off b) (h : ι i = .pointer (some ⟨b, 0, none⟩)) : RepA F Z ι w (.adr i off) (.pointer (some ⟨b, off, none⟩))
  | elt (i esz k off b n cap) (h : ι i = .slice (some ⟨b, 0, none⟩) n cap) : RepA F Z ι w (.elt i esz k off) (.pointer (some ⟨b, k * esz + off, none⟩))
  | vw (i esz k x) (h : x = viewV esz k (ι i)) : RepA F Z ι w (.vw i esz k) x
  | ag (cs : List AV) (xs : Array Value) (h1 : xs.size = cs.length) (h2 : ∀ j c, cs[j]? = some c → RepA F Z ι w c (xs.getD j undef)) : RepA F Z ι w (.ag cs) (.agg xs)
  | tp (cs : List AV) (xs : Array Value) (h1 : xs.size = cs.length) (h2 : ∀ j c, cs[j]? = some c → RepA F Z ι w c (xs.getD j undef)) : RepA F Z ι w (.tp cs) (.tuple xs)
  | cl (f : FuncId) (first caps : List AV) (fs cs : Array Value) (h1 : fs.size = first.length) (h2 : cs.size = caps.length)
      (h3 : ∀ j c, first[j]? = some c → RepA F Z ι w c (fs.getD j undef)) (h4 : ∀ j c, caps[j]? = some c → RepA F Z ι w c (cs.getD j undef)) :
      RepA F Z ι w (.cl f first caps) (.func (.func f) fs cs)
mutual
def AV.noid (i : Nat) : AV → Bool
  | .p _ _ => true
  | .own j => j != i
  | .adr j _ => j != i
  | .elt j _ _ _ => j != i
  | .vw j _ _ => j != i
  | .ag cs => AV.noids i cs
  | .tp cs => AV.noids i cs
  | .cl _ a b => AV.noids i a && AV.noids i b
def AV.noids (i : Nat) : List AV → Bool
  | [] => true
  | c :: cs => AV.noid i c && AV.noids i cs
end
theorem noids_get {i : Nat} : ∀ {cs : List AV} {j : Nat} {c : AV}, AV.noids i cs = true → cs[j]? = some c → c.noid i = true
  | [], _, _, _, h => by simp at h
  | d :: cs, 0, c, h, e => by
    simp only [AV.noids, Bool.and_eq_true] at h
    simp only [List.getElem?_cons_zero, Option.some.injEq] at e
    exact e ▸ h.1
  | d :: cs, j + 1, c, h, e => by
    simp only [AV.noids, Bool.and_eq_true] at h
    exact noids_get h.2 (by simpa using e)
theorem RepA.mono {F F' Z Z' : Nat → Prop} {ι ι' : Nat → Value} {w w' : World}
    (hF : ∀ b, F b → b < w.heap.size → w'.heap[b]? = w.heap[b]? ∧ F' b)
    (hZ : ∀ b, Z b → b < w.heap.size → w'.heap[b]? = w.heap[b]? ∧ Z' b)
    {c : AV} {x : Value} (hx : RepA F Z ι w c x) (hi : ∀ i, c.noid i = false → ι' i = ι i) : RepA F' Z' ι' w' c x := by
  induction hx with
  | pt c x h => exact .pt _ _ (h.mono hF)
  | pf c x h => exact .pf _ _ (h.mono hZ)
  | own i => rw [← hi i (by simp [AV.noid])]; exact .own i
  | adr i off b h => exact .adr i off b ((hi i (by simp [AV.noid])).trans h)
  | elt i esz k off b n cap h => exact .elt i esz k off b n cap ((hi i (by simp [AV.noid])).trans h)
  | vw i esz k x h => exact .vw i esz k x (by rw [h, hi i (by simp [AV.noid])])
  | ag cs xs h1 h2 ih =>
    refine .ag cs xs h1 fun j c hj => ih j c hj fun i hc => hi i ?_
    cases h : AV.noid i (.ag cs) with
    | false => rfl
    | true => simp only [AV.noid] at h; rw [noids_get h hj] at hc; cases hc
  | tp cs xs h1 h2 ih =>
    refine .tp cs xs h1 fun j c hj => ih j c hj fun i hc => hi i ?_
    cases h : AV.noid i (.tp cs) with
    | false => rfl
    | true => simp only [AV.noid] at h; rw [noids_get h hj] at hc; cases hc
  | cl f first caps fs cs h1 h2 h3 h4 ih3 ih4 =>
    refine .cl f first caps fs cs h1 h2 (fun j c hj => ih3 j c hj fun i hc => hi i ?_) (fun j c hj => ih4 j c hj fun i hc => hi i ?_)
    · cases h : AV.noid i (.cl f first caps) with
      | false => rfl
      | true => simp only [AV.noid, Bool.and_eq_true] at h; rw [noids_get h.1 hj] at hc; cases hc
    · cases h : AV.noid i (.cl f first caps) with
      | false => rfl
      | true => simp only [AV.noid, Bool.and_eq_true] at h; rw [noids_get h.2 hj] at hc; cases hc
inductive Mode where
  | z
  | f
  | u
  deriving DecidableEq
inductive Ob where
  | box (cs : List AV)
  | row (m : Mode) (nn : Bool) (esz n : Nat) (g : Nat → Nat → PV) (hl : List (Nat × Nat × Nat))
  | map (f : Int → Option Value) (n : Nat)
def Ob.noid (i : Nat) : Ob → Bool
  | .box cs => AV.noids i cs
  | .row _ _ _ _ _ hl => hl.all fun x => x.2.2 != i
  | .map _ _ => true
def hole : List (Nat × Nat × Nat) → Nat → Nat → Option Nat
  | [], _, _ => none
  | (k, j, d) :: r, a, b => if a = k ∧ b = j then some d else hole r a b
def EltOk (m : Mode) (F Z S : Nat → Prop) (q : Nat → Option (Nat × Nat)) (ι : Nat → Value) (hl : List (Nat × Nat × Nat)) (w : World) (i j : Nat) (c : PV) (v : Value) : Prop :=
  match m with
  | .z => RepP Z w c v
  | .f => RepP F w c v
  | .u => match hole hl i j with
    | some d => v = ι d
    | none => RepU w (fun b => S b ∧ q b = some (i, j)) c v
def keyInt : Value → Int
  | .int _ k => k
  | _ => 0
def MapOk (entries : Array MapEntry) (clock : Nat) (f : Int → Option Value) (n : Nat) : Prop :=
  entries.size = n ∧ (∀ e ∈ entries.toList, ∃ k : Int, e.key = .int .i64 k ∧ f k = some e.val ∧ e.born < clock) ∧
  (∀ k v, f k = some v → ∃ e ∈ entries.toList, e.key = .int .i64 k) ∧
  (entries.toList.map fun e => keyInt e.key).Nodup
def ObOk (F Z S : Nat → Prop) (ι : Nat → Value) (w : World) (x : Value) : Ob → Prop
  | .box cs => ∃ b c t, x = .pointer (some ⟨b, 0, none⟩) ∧ S b ∧ w.heap[b]? = some (.cells c t (0, 0)) ∧ c.size = cs.length ∧
      ∀ j cc, cs[j]? = some cc → RepA F Z ι w cc (c.getD j undef)
  | .row m nn esz n g hl => (n = 0 ∧ ((nn = false ∧ x = .slice none 0 0) ∨ ∃ b off, x = .slice (some ⟨b, off, none⟩) 0 0)) ∨
      ∃ b cap c t q, x = .slice (some ⟨b, 0, none⟩) n cap ∧ S b ∧ w.heap[b]? = some (.cells c t (0, 0)) ∧ n ≤ cap ∧ cap * esz ≤ c.size ∧ q b = none ∧
        ∀ i j, i < n → j < esz → EltOk m F Z S q ι hl w i j (g i j) (c.getD (i * esz + j) undef)
  | .map f n => ∃ b entries clock, x = .map (some b) ∧ S b ∧ w.heap[b]? = some (.map entries clock) ∧ MapOk entries clock f n
structure Ext (D : Nat → Prop) (w w' : World) : Prop where
  os : w'.os = w.os
  tape : w'.tape = w.tape
  output : w'.output = w.output
  drawn : w.drawn ≤ w'.drawn
  size : w.heap.size ≤ w'.heap.size
  block : ∀ b, b < w.heap.size → ¬ D b → w'.heap[b]? = w.heap[b]?
theorem Ext.refl (D : Nat → Prop) (w : World) : Ext D w w := ⟨rfl, rfl, rfl, Nat.le_refl _, Nat.le_refl _, fun _ _ _ => rfl⟩
theorem Ext.trans {D D' : Nat → Prop} {a b c : World} (h : Ext D a b) (k : Ext D' b c) (hd : ∀ x, x < a.heap.size → D' x → D x) : Ext D a c :=
  ⟨k.os.trans h.os, k.tape.trans h.tape, k.output.trans h.output, Nat.le_trans h.drawn k.drawn, Nat.le_trans h.size k.size,
   fun i hi hn => (k.block i (Nat.lt_of_lt_of_le hi h.size) (fun hh => hn (hd i hi hh))).trans (h.block i hi hn)⟩
def look {α : Type} : List (Nat × α) → Nat → Option α
  | [], _ => none
  | (u, c) :: r, t => if u = t then some c else look r t
def ins {α : Type} : List (Nat × α) → Nat → α → List (Nat × α)
  | [], t, c => [(t, c)]
  | (u, d) :: r, t, c => if u = t then (t, c) :: r else (u, d) :: ins r t c
def del {α : Type} : List (Nat × α) → Nat → List (Nat × α)
  | [], _ => []
  | (u, d) :: r, t => if u = t then del r t else (u, d) :: del r t
theorem look_ins {α : Type} (l : List (Nat × α)) (t u : Nat) (c : α) : look (ins l t c) u = if t = u then some c else look l u := by
  induction l with
  | nil => simp [ins, look]
  | cons x r ih =>
    obtain ⟨y, d⟩ := x
    simp only [ins]
    by_cases h : y = t
    · simp only [h, if_true, look]
      by_cases h2 : t = u <;> simp [h2]
    · simp only [h, if_false, look, ih]
      by_cases h2 : y = u
      · have : t ≠ u := fun e => h (h2.trans e.symm)
        simp [h2, this]
      · simp [h2]
theorem look_del {α : Type} (l : List (Nat × α)) (t u : Nat) : look (del l t) u = if t = u then none else look l u := by
  induction l with
  | nil => simp [del, look]
  | cons x r ih =>
    obtain ⟨y, d⟩ := x
    simp only [del]
    by_cases h : y = t
    · simp only [h, if_true, look, ih]
      by_cases h2 : t = u <;> simp [h2]
    · simp only [h, if_false, look, ih]
      by_cases h2 : y = u
      · have : t ≠ u := fun e => h (h2.trans e.symm)
        simp [h2, this]
      · simp [h2]
theorem look_mem {α : Type} {l : List (Nat × α)} {t : Nat} {c : α} (h : look l t = some c) : (t, c) ∈ l := by
  induction l with
  | nil => simp [look] at h
  | cons x r ih =>
    obtain ⟨u, d⟩ := x
    simp only [look] at h
    split at h
    · rename_i he; subst he; simp only [Option.some.injEq] at h; subst h; exact List.mem_cons_self
    · exact List.mem_cons_of_mem _ (ih h)
structure St where
  env : List (Nat × AV)
  H : List (Nat × Ob)
def St.get (s : St) (t : Nat) : AV := (look s.env t).getD (.p false .any)
def St.put (s : St) (t : Nat) (c : AV) : St := { s with env := ins s.env t c }
def St.putD (s : St) (t : Option Nat) (c : AV) : St := match t with | some t => s.put t c | none => s
def St.obj (s : St) (i : Nat) : Option Ob := look s.H i
def St.setOb (s : St) (i : Nat) (o : Ob) : St := { s with H := ins s.H i o }
def St.delOb (s : St) (i : Nat) : St := { s with H := del s.H i }
def hbs : Nat := 100000
def St.noid (s : St) (i : Nat) : Prop := (∀ t, (s.get t).noid i = true) ∧ (∀ j o, s.obj j = some o → o.noid i = true) ∧ i < hbs
abbrev Upd := List (Nat × Option Ob)
def St.upd (s : St) : Upd → St
  | [] => s
  | (i, none) :: u => (s.delOb i).upd u
  | (i, some o) :: u => (s.setOb i o).upd u
structure Cx where
  w0 : World
  Z0 : Nat → Prop
  D0 : Nat → Prop
  n : Nat
  G : List (Nat × PV)
  ι0 : Nat → Value
def zF (cx : Cx) (ow : Nat → Option Nat) (b : Nat) : Prop := ow b = none ∧ (cx.D0 b ∨ cx.w0.heap.size ≤ b)
def zZ (cx : Cx) (ow : Nat → Option Nat) (b : Nat) : Prop := ow b = none ∧ (cx.Z0 b ∨ cx.D0 b ∨ cx.w0.heap.size ≤ b)
theorem zFZ {cx : Cx} {ow : Nat → Option Nat} {b : Nat} (h : zF cx ow b) : zZ cx ow b := ⟨h.1, .inr h.2⟩
structure Models (cx : Cx) (ι : Nat → Value) (ow : Nat → Option Nat) (s : St) (a : Act) (w : World) : Prop where
  defers : a.defers = []
  size : a.tmps.size = cx.n
  env : ∀ t, RepA (zF cx ow) (zZ cx ow) ι w (s.get t) (a.tmps.getD t undef)
  obs : ∀ i o, s.obj i = some o → ObOk (zF cx ow) (zZ cx ow) (fun b => ow b = some i) ι w (ι i) o
  dom : ∀ b i, ow b = some i → (s.obj i).isSome = true ∧ (cx.D0 b ∨ cx.w0.heap.size ≤ b)
  ext : Ext cx.D0 cx.w0 w
  gl : ∀ g c, look cx.G g = some c → RepP (zZ cx ow) w c (.pointer (some ⟨g, 0, none⟩))
  kp : ∀ i, hbs ≤ i → ι i = cx.ι0 i
theorem St.get_put (s : St) (t u : Nat) (c : AV) : (s.put t c).get u = if t = u then c else s.get u := by
  simp only [St.get, St.put, look_ins]; split <;> rfl
theorem St.obj_setOb (s : St) (i j : Nat) (o : Ob) : (s.setOb i o).obj j = if i = j then some o else s.obj j := by
  simp only [St.obj, St.setOb, look_ins]
theorem St.obj_delOb (s : St) (i j : Nat) : (s.delOb i).obj j = if i = j then none else s.obj j := by
  simp only [St.obj, St.delOb, look_del]
theorem EltOk.mono {m : Mode} {F F' Z Z' S S' : Nat → Prop} {q : Nat → Option (Nat × Nat)} {ι ι' : Nat → Value} {hl : List (Nat × Nat × Nat)} {w w' : World} {i j : Nat} {c : PV} {v : Value}
    (hF : ∀ b, F b → b < w.heap.size → w'.heap[b]? = w.heap[b]? ∧ F' b)
    (hZ : ∀ b, Z b → b < w.heap.size → w'.heap[b]? = w.heap[b]? ∧ Z' b)
    (hS : ∀ b, S b → q b ≠ none → b < w.heap.size → w'.heap[b]? = w.heap[b]? ∧ S' b)
    (hi : ∀ d, hole hl i j = some d → ι' d = ι d)
    (h : EltOk m F Z S q ι hl w i j c v) : EltOk m F' Z' S' q ι' hl w' i j c v := by
  cases m with
  | z => exact RepP.mono hZ h
  | f => exact RepP.mono hF h
  | u =>
    simp only [EltOk] at h ⊢
    cases hd : hole hl i j with
    | some d => simp only [hd] at h ⊢; rw [hi d hd]; exact h
    | none =>
      simp only [hd] at h ⊢
      exact h.mono fun b hb hl => ⟨(hS b hb.1 (by rw [hb.2]; simp) hl).1, (hS b hb.1 (by rw [hb.2]; simp) hl).2, hb.2⟩
theorem hole_mem {hl : List (Nat × Nat × Nat)} {i j d : Nat} (h : hole hl i j = some d) : (i, j, d) ∈ hl := by
  induction hl with
  | nil => cases h
  | cons x r ih =>
    obtain ⟨k, l, e⟩ := x
    simp only [hole] at h
    split at h
    · rename_i he; obtain ⟨rfl, rfl⟩ := he; cases h; exact List.mem_cons_self
    · exact List.mem_cons_of_mem _ (ih h)
theorem ObOk.mono {F F' Z Z' S S' : Nat → Prop} {ι ι' : Nat → Value} {w w' : World} {x : Value} {o : Ob}
    (hF : ∀ b, F b → b < w.heap.size → w'.heap[b]? = w.heap[b]? ∧ F' b)
    (hZ : ∀ b, Z b → b < w.heap.size → w'.heap[b]? = w.heap[b]? ∧ Z' b)
    (hS : ∀ b, S b → b < w.heap.size → w'.heap[b]? = w.heap[b]? ∧ S' b)
    (hx : ObOk F Z S ι w x o) (hi : ∀ i, o.noid i = false → ι' i = ι i) :
    ObOk F' Z' S' ι' w' x o := by
  cases o with
  | box cs =>
    obtain ⟨b, c, t, rfl, h0, h1, h2, h3⟩ := hx
    obtain ⟨e1, e2⟩ := hS b h0 (heap_lt h1)
    refine ⟨b, c, t, rfl, e2, e1.trans h1, h2, fun j cc hj => (h3 j cc hj).mono hF hZ fun i hc => hi i ?_⟩
    cases h : (Ob.box cs).noid i with
    | false => rfl
    | true => rw [noids_get h hj] at hc; cases hc
  | row m nn esz n g hl =>
    rcases hx with h | ⟨b, cap, c, t, q, rfl, h0, h1, h2, h3, hq, h5⟩
    · exact .inl h
    · obtain ⟨e1, e2⟩ := hS b h0 (heap_lt h1)
      refine .inr ⟨b, cap, c, t, q, rfl, e2, e1.trans h1, h2, h3, hq, fun i j hi' hj => (h5 i j hi' hj).mono hF hZ (fun b hb _ hl => hS b hb hl) fun d hd => hi d ?_⟩
      simp only [Ob.noid, List.all_eq_false]
      exact ⟨_, hole_mem hd, by simp⟩
  | map f n =>
    obtain ⟨b, e, k, rfl, h0, h1, h2⟩ := hx
    obtain ⟨e1, e2⟩ := hS b h0 (heap_lt h1)
    exact ⟨b, e, k, rfl, e2, e1.trans h1, h2⟩
theorem Models.change {cx : Cx} {ι : Nat → Value} {ow : Nat → Option Nat} {s : St} {a : Act} {w : World} (hm : Models cx ι ow s a w)
    {ι' : Nat → Value} {ow' : Nat → Option Nat} {s' : St} {w' : World}
    (henv : s'.env = s.env)
    (hι : ∀ i, ι' i = ι i ∨ s.noid i)
    (hfree : ∀ b, b < w.heap.size → ow b = none → ow' b = none ∧ w'.heap[b]? = w.heap[b]?)
    (hdom : ∀ b i, ow' b = some i → (s'.obj i).isSome = true ∧ (cx.D0 b ∨ cx.w0.heap.size ≤ b))
    (hos : w'.os = w.os) (htape : w'.tape = w.tape) (hout : w'.output = w.output) (hdrawn : w.drawn ≤ w'.drawn) (hsize : w.heap.size ≤ w'.heap.size)
    (hobs : ∀ i o, s'.obj i = some o → (ι' i = ι i ∧ s.obj i = some o ∧ ∀ b, b < w.heap.size → ow b = some i → ow' b = some i ∧ w'.heap[b]? = w.heap[b]?) ∨
      ((∀ b, zF cx ow b → b < w.heap.size → w'.heap[b]? = w.heap[b]? ∧ zF cx ow' b) → (∀ b, zZ cx ow b → b < w.heap.size → w'.heap[b]? = w.heap[b]? ∧ zZ cx ow' b) →
        (∀ j o, s.obj j = some o → ∀ k, o.noid k = false → ι' k = ι k) → ObOk (zF cx ow') (zZ cx ow') (fun b => ow' b = some i) ι' w' (ι' i) o)) :
    Models cx ι' ow' s' a w' := by
  have hF : ∀ b, zF cx ow b → b < w.heap.size → w'.heap[b]? = w.heap[b]? ∧ zF cx ow' b := fun b h hl =>
    ⟨(hfree b hl h.1).2, (hfree b hl h.1).1, h.2⟩
  have hZ : ∀ b, zZ cx ow b → b < w.heap.size → w'.heap[b]? = w.heap[b]? ∧ zZ cx ow' b := fun b h hl =>
    ⟨(hfree b hl h.1).2, (hfree b hl h.1).1, h.2⟩
  have hno : ∀ j o, s.obj j = some o → ∀ k, o.noid k = false → ι' k = ι k := fun j o ho k hk => by
    rcases hι k with h | h
    · exact h
    · rw [h.2.1 j o ho] at hk; cases hk
  exact {
    defers := hm.defers
    size := hm.size
    env := fun t => by
      have e : s'.get t = s.get t := by simp only [St.get, henv]
      rw [e]
      refine (hm.env t).mono hF hZ fun i hi => ?_
      rcases hι i with h | h
      · exact h
      · rw [h.1 t] at hi; cases hi
    obs := fun i o ho => by
      rcases hobs i o ho with ⟨h1, h2, h3⟩ | h
      · rw [h1]
        exact (hm.obs i o h2).mono hF hZ (fun b hb hl => ⟨(h3 b hl hb).2, (h3 b hl hb).1⟩) (hno i o h2)
      · exact h hF hZ hno
    dom := hdom
    ext := by
      refine ⟨hos.trans hm.ext.os, htape.trans hm.ext.tape, hout.trans hm.ext.output, Nat.le_trans hm.ext.drawn hdrawn, Nat.le_trans hm.ext.size hsize, fun b hl hd => ?_⟩
      rw [← hm.ext.block b hl hd]
      have hl' := Nat.lt_of_lt_of_le hl hm.ext.size
      cases ho : ow b with
      | none => exact (hfree b hl' ho).2
      | some i =>
        rcases (hm.dom b i ho).2 with h | h
        · exact (hd h).elim
        · omega
    gl := fun g c h => (hm.gl g c h).mono hZ
    kp := fun i hi => by
      rcases hι i with h | h
      · exact h.trans (hm.kp i hi)
      · exact absurd h.2.2 (Nat.not_lt.2 hi) }
end Go.Gw
namespace Go.Gw
set_option linter.unusedVariables false
set_option linter.unusedSimpArgs false
open Go
def Grows (w w' : World) : Prop := Ext (fun _ => False) w w'
theorem Grows.refl (w : World) : Grows w w := Ext.refl _ _
theorem Grows.same {w w' : World} (h : Grows w w') {b : Nat} (hb : b < w.heap.size) : w'.heap[b]? = w.heap[b]? := h.block b hb (fun h => h)
theorem Grows.trans {a b c : World} (h : Grows a b) (k : Grows b c) : Grows a c := Ext.trans h k (fun _ _ h => h)
theorem Grows.alloc (w : World) (o : Obj) : Grows w (w.alloc o) :=
  ⟨rfl, rfl, rfl, Nat.le_refl _, by simp, fun b hb _ => RowKit.Below.heap_alloc w o b hb⟩
theorem Grows.drew (w : World) : Grows w w.drew := ⟨rfl, rfl, rfl, (show w.drawn ≤ w.drawn + 1 from Nat.le_succ _), Nat.le_refl _, fun _ _ _ => rfl⟩
theorem getD_set (xs : Array Value) (t u : Nat) (v : Value) : (xs.setIfInBounds t v).getD u undef = if t = u ∧ t < xs.size then v else xs.getD u undef := by
  simp only [Array.getD_eq_getD_getElem?, Array.getElem?_setIfInBounds]
  by_cases h : t = u
  · subst h
    by_cases h2 : t < xs.size
    · simp [h2]
    · simp [h2, Array.getElem?_eq_none (Nat.le_of_not_lt h2)]
  · simp [h]
section
variable {cx : Cx} {ι : Nat → Value} {ow : Nat → Option Nat} {s : St} {a : Act} {w : World}
theorem Models.grow (hm : Models cx ι ow s a w) {w' : World} (hg : Grows w w') : Models cx ι ow s a w' :=
  hm.change (s' := s) rfl (fun _ => .inl rfl) (fun b hl ho => ⟨ho, hg.same hl⟩) hm.dom hg.os hg.tape hg.output hg.drawn hg.size
    fun i o ho => .inl ⟨rfl, ho, fun b hl h => ⟨h, hg.same hl⟩⟩
theorem Models.put (hm : Models cx ι ow s a w) {c : AV} {v : Value} (h : RepA (zF cx ow) (zZ cx ow) ι w c v) {t : Nat} (ht : t < cx.n) :
    Models cx ι ow (s.put t c) { a with tmps := a.tmps.setIfInBounds t v } w where
  defers := hm.defers
  size := by simpa using hm.size
  env := fun u => by
    rw [St.get_put, getD_set]
    by_cases hu : t = u
    · subst hu
      rw [if_pos rfl, if_pos ⟨rfl, by rw [hm.size]; exact ht⟩]
      exact h
    · rw [if_neg hu, if_neg (fun e => hu e.1)]
      exact hm.env u
  obs := hm.obs
  dom := hm.dom
  ext := hm.ext
  gl := hm.gl
  kp := hm.kp
theorem Models.putD (hm : Models cx ι ow s a w) {c : AV} {v : Value} (h : RepA (zF cx ow) (zZ cx ow) ι w c v) {d : Option Nat} (ht : ∀ t, d = some t → t < cx.n) :
    Models cx ι ow (s.putD d c) (a.put d v) w := by
  cases d with
  | none => exact hm
  | some t => exact hm.put h (ht t rfl)
theorem Models.redesc (hm : Models cx ι ow s a w) {t : Nat} {c : AV} (h : RepA (zF cx ow) (zZ cx ow) ι w c (a.tmps.getD t undef)) :
    Models cx ι ow (s.put t c) a w where
  defers := hm.defers
  size := hm.size
  env := fun u => by
    rw [St.get_put]
    by_cases hu : t = u
    · subst hu; rw [if_pos rfl]; exact h
    · rw [if_neg hu]; exact hm.env u
  obs := hm.obs
  dom := hm.dom
  ext := hm.ext
  gl := hm.gl
  kp := hm.kp
theorem Models.same (hm : Models cx ι ow s a w) {s' : St} (h1 : ∀ t, s'.get t = s.get t) (h2 : ∀ i, s'.obj i = s.obj i) : Models cx ι ow s' a w where
  defers := hm.defers
  size := hm.size
  env := fun t => by rw [h1]; exact hm.env t
  obs := fun i o h => hm.obs i o (by rw [← h2]; exact h)
  dom := fun b i h => by rw [h2]; exact hm.dom b i h
  ext := hm.ext
  gl := hm.gl
  kp := hm.kp
def St.drop (s : St) (l : List Nat) : St := { s with env := s.env.filter fun x => !l.contains x.1 }
theorem look_filter {α : Type} (l : List Nat) (u : Nat) : ∀ e : List (Nat × α), look (e.filter fun x => !l.contains x.1) u = if l.contains u then none else look e u := by
  intro e
  induction e with
  | nil => simp [look]
  | cons x r ih =>
    obtain ⟨t, c⟩ := x
    simp only [List.filter_cons]
    by_cases ht : l.contains t
    · simp only [ht, Bool.not_true, Bool.false_eq_true, if_false, ih, look]
      by_cases hu : t = u
      · subst hu; simp only [ht, if_true]
      · simp [hu]
    · simp only [ht, Bool.not_false, if_true, look, ih]
      by_cases hu : t = u
      · subst hu; simp only [ht, if_true]; rfl
      · simp [hu]
theorem Models.drop (hm : Models cx ι ow s a w) (l : List Nat) : Models cx ι ow (s.drop l) a w where
  defers := hm.defers
  size := hm.size
  env := fun u => by
    unfold St.get St.drop
    rw [look_filter]
    split
    · exact .pf _ _ (.any _)
    · exact hm.env u
  obs := hm.obs
  dom := hm.dom
  ext := hm.ext
  gl := hm.gl
  kp := hm.kp
def rel (ow : Nat → Option Nat) (l : List Nat) (b : Nat) : Option Nat := match ow b with
  | some i => if i ∈ l then none else some i
  | none => none
def St.dels (s : St) : List Nat → St
  | [] => s
  | j :: l => (s.delOb j).dels l
theorem obj_dels (l : List Nat) : ∀ (s : St) (i : Nat), (s.dels l).obj i = if i ∈ l then none else s.obj i := by
  induction l with
  | nil => intro s i; simp [St.dels]
  | cons j l ih =>
    intro s i
    simp only [St.dels, ih, St.obj_delOb, List.mem_cons]
    by_cases h : i ∈ l
    · simp [h]
    · by_cases h2 : j = i
      · subst h2; simp
      · have : ¬ i = j := fun e => h2 e.symm
        simp [h, h2, this]
theorem get_dels (l : List Nat) : ∀ (s : St) (t : Nat), (s.dels l).get t = s.get t := by
  induction l with
  | nil => intro s i; rfl
  | cons j l ih => intro s i; exact ih (s.delOb j) i
theorem env_dels (l : List Nat) : ∀ (s : St), (s.dels l).env = s.env := by
  induction l with
  | nil => intro s; rfl
  | cons j l ih => intro s; exact ih (s.delOb j)
theorem env_upd (u : Upd) : ∀ (s : St), (s.upd u).env = s.env := by
  induction u with
  | nil => intro s; rfl
  | cons x u ih => intro s; obtain ⟨i, o⟩ := x; cases o <;> exact ih _
theorem Models.dels (hm : Models cx ι ow s a w) (l : List Nat) : Models cx ι (rel ow l) (s.dels l) a w := by
  refine hm.change (env_dels l s) (fun _ => .inl rfl) (fun b hl ho => ⟨by simp [rel, ho], rfl⟩) (fun b i h => ?_) rfl rfl rfl (Nat.le_refl _) (Nat.le_refl _) fun i o ho => .inl ⟨rfl, ?_, fun b hl h => ⟨?_, rfl⟩⟩
  · unfold rel at h
    split at h
    · rename_i j hj
      split at h
      · cases h
      · rename_i hn
        cases h
        obtain ⟨h1, h2⟩ := hm.dom b i hj
        exact ⟨by rw [obj_dels, if_neg hn]; exact h1, h2⟩
    · cases h
  · rw [obj_dels] at ho; split at ho
    · cases ho
    · exact ho
  · rw [obj_dels] at ho
    split at ho
    · cases ho
    · rename_i hn; simp [rel, h, hn]
theorem rowU_iff {F Z S : Nat → Prop} {x : Value} {nn : Bool} {esz n : Nat} {g : Nat → Nat → PV} : ObOk F Z S ι w x (.row .u nn esz n g []) ↔ RepU w S (.sl nn esz n g) x := by
  constructor
  · rintro (⟨rfl, ⟨rfl, rfl⟩ | ⟨b, off, rfl⟩⟩ | ⟨b, cap, c, t, q, rfl, h0, h1, h2, h3, hq, h5⟩)
    · exact .nil _ _ _
    · exact .emp _ _ _ _ _ _
    · exact .sl _ _ _ _ _ b cap c t q h0 h1 h2 h3 hq h5
  · intro h
    cases h with
    | nil => exact .inl ⟨rfl, .inl ⟨rfl, rfl⟩⟩
    | emp _ _ _ _ b off => exact .inl ⟨rfl, .inr ⟨b, off, rfl⟩⟩
    | sl _ _ _ _ _ b cap c t q h0 h1 h2 h3 hq h5 => exact .inr ⟨b, cap, c, t, q, rfl, h0, h1, h2, h3, hq, h5⟩
theorem ObOk.frozen {F Z S Y : Nat → Prop} {x : Value} {m : Mode} {nn : Bool} {esz n : Nat} {g : Nat → Nat → PV}
    (h : ObOk F Z S ι w x (.row m nn esz n g [])) (hY : ∀ b, (match m with | .z => Z b | .f => F b | .u => False) → b < w.heap.size → Y b) (hb : ∀ b, S b → b < w.heap.size → Y b) : RepP Y w (.sl nn esz n g) x := by
  rcases h with ⟨rfl, ⟨rfl, rfl⟩ | ⟨b, off, rfl⟩⟩ | ⟨b, cap, c, t, q, rfl, h0, h1, h2, h3, hq, h5⟩
  · exact .nil _ _
  · exact .sl _ _ _ _ b off 0 (fun _ _ => undef) (fun i j hi => by omega) (fun i j hi => by omega) (fun i j hi => by omega) (Nat.le_refl _)
  · refine .sl nn esz n g b 0 cap (fun i j => c.getD (i * esz + j) undef) (fun i j hi hj => ?_) (fun i j hi hj => ?_) (fun i j hi hj => hb b h0 (heap_lt h1)) h2
    · have := idx_lt hi hj
      have := Nat.mul_le_mul_right esz h2
      rw [Nat.zero_add]
      exact cell_of_row h1 (by omega)
    · have h6 := h5 i j hi hj
      cases m with
      | z => exact RepP.mono (fun b hb' hl => ⟨rfl, hY b hb' hl⟩) h6
      | f => exact RepP.mono (fun b hb' hl => ⟨rfl, hY b hb' hl⟩) h6
      | u =>
        simp only [EltOk, hole] at h6
        exact h6.toP fun k hk hl => hb k hk.1 hl
def Value.one : Value → Bool
  | .agg _ => false
  | .tuple _ => false
  | _ => true
theorem own_one (hm : Models cx ι ow s a w) {i : Nat} (h : (s.obj i).isSome = true) : (ι i).oneCell' = true := by
  cases ho : s.obj i with
  | none => simp [ho] at h
  | some o =>
    have := hm.obs i o ho
    cases o with
    | box cs => obtain ⟨b, c, t, h1, _⟩ := this; rw [h1]; rfl
    | row m nn esz n g hl =>
      rcases this with ⟨_, ⟨_, h1⟩ | ⟨b, off, h1⟩⟩ | ⟨b, cap, c, t, q, h1, _⟩ <;> rw [h1] <;> rfl
    | map f n => obtain ⟨b, e, k, h1, _⟩ := this; rw [h1]; rfl
end
theorem hole_filter_ne (j : Nat) : ∀ (hl : List (Nat × Nat × Nat)) (a b : Nat), b ≠ j → hole (hl.filter fun x => x.2.1 != j) a b = hole hl a b
  | [], a, b, h => rfl
  | (k, l, d) :: r, a, b, h => by
    simp only [List.filter_cons]
    split
    · simp only [hole, hole_filter_ne j r a b h]
    · rename_i hl
      simp only [bne_iff_ne, ne_eq, Decidable.not_not] at hl
      subst hl
      simp only [hole, hole_filter_ne l r a b h]
      rw [if_neg (fun e => h e.2)]
theorem hole_filter_eq (j : Nat) : ∀ (hl : List (Nat × Nat × Nat)) (a : Nat), hole (hl.filter fun x => x.2.1 != j) a j = none
  | [], a => rfl
  | (k, l, d) :: r, a => by
    simp only [List.filter_cons]
    split
    · rename_i hl
      simp only [hole, hole_filter_eq j r a]
      rw [if_neg (fun e => by simp [e.2] at hl)]
    · exact hole_filter_eq j r a
theorem hole_of_filter (j : Nat) : ∀ (hl : List (Nat × Nat × Nat)) (a : Nat), hole hl a j = hole (hl.filter fun x => x.2.1 == j) a j
  | [], a => rfl
  | (k, l, d) :: r, a => by
    simp only [List.filter_cons]
    split
    · simp only [hole, hole_of_filter j r a]
    · rename_i hl
      simp only [hole]
      rw [if_neg (fun e => hl (by simp [e.2])), hole_of_filter j r a]
def cellSet (g : Nat → Nat → PV) (k j : Nat) (c : PV) : Nat → Nat → PV := fun a b => if b = j ∧ a = k then c else g a b
def St.back (s : St) (i j : Nat) : Option St :=
  match s.obj i with
  | some (.row .u nn esz n g hl) => match hl.filter fun x => x.2.1 == j with
    | [(k, _, d)] => match s.obj d with
      | some (.row .u nn' esz' n' g' []) => if i == d then none else
          some ((s.delOb d).setOb i (.row .u nn esz n (cellSet g k j (.sl nn' esz' n' g')) (hl.filter fun x => x.2.1 != j)))
      | none => some (s.setOb i (.row .u nn esz n (cellSet g k j .any) (hl.filter fun x => x.2.1 != j)))
      | _ => none
    | _ => none
  | _ => none
section
variable {cx : Cx} {ι : Nat → Value} {ow : Nat → Option Nat} {s : St} {a : Act} {w : World}
theorem Models.back (hm : Models cx ι ow s a w) {i j : Nat} {s' : St} (h : s.back i j = some s') : ∃ ow', Models cx ι ow' s' a w := by
  unfold St.back at h
  split at h
  case h_2 => cases h
  rename_i nn esz n g hl ho
  split at h
  case h_2 => cases h
  rename_i k j' d hf
  have hj' : j' = j := by
    have : (k, j', d) ∈ hl.filter fun x => x.2.1 == j := by rw [hf]; exact List.mem_singleton.2 rfl
    simpa using (List.mem_filter.1 this).2
  subst hj'
  have hh : ∀ p, hole hl p j' = if p = k then some d else none := fun p => by
    rw [hole_of_filter, hf]; simp [hole]
  split at h
  · rename_i nn' esz' n' g' hd
    split at h
    · cases h
    · rename_i hid
      simp only [beq_iff_eq] at hid
      cases h
      refine ⟨fun b => if ow b = some d then some i else ow b, hm.change rfl (fun _ => .inl rfl) (fun b hl ho => ⟨by simp [ho], rfl⟩) (fun b e he => ?_) rfl rfl rfl (Nat.le_refl _) (Nat.le_refl _) fun e o hob => ?_⟩
      · have hx := fun e h => (hm.dom b e h)
        split at he
        · rename_i h1
          cases he
          exact ⟨by rw [St.obj_setOb, if_pos rfl]; rfl, (hx d h1).2⟩
        · rename_i h1
          refine ⟨?_, (hx e he).2⟩
          rw [St.obj_setOb]
          split
          · rfl
          · have hne : ¬ d = e := fun x => h1 (by rw [x]; exact he)
            rw [St.obj_delOb, if_neg hne]; exact (hx e he).1
      · rw [St.obj_setOb] at hob
        split at hob
        · rename_i he
          subst he
          cases hob
          refine .inr fun hF hZ hno => ?_
          rcases hm.obs i _ ho with h | ⟨b, cap, c, t, q, h4, h0, h1, h2, h3, hq, h5⟩
          · exact .inl h
          · refine .inr ⟨b, cap, c, t, fun e => if ow e = some d then some (k, j') else q e, h4, ?_, h1, h2, h3, ?_, fun p r hp hr => ?_⟩
            · show (if ow b = some d then some i else ow b) = some i
              rw [if_neg (by rw [h0]; intro e; cases e; exact hid rfl)]; exact h0
            · show (if ow b = some d then some (k, j') else q b) = none
              rw [if_neg (by rw [h0]; intro e; cases e; exact hid rfl)]; exact hq
            · have h6 := h5 p r hp hr
              simp only [EltOk] at h6 ⊢
              by_cases hrj : r = j'
              · subst hrj
                rw [hole_filter_eq]
                rw [hh] at h6
                show RepU w _ (cellSet g k r _ p r) _
                unfold cellSet
                by_cases hpk : p = k
                · subst hpk
                  simp only [if_true] at h6
                  rw [if_pos ⟨rfl, rfl⟩, h6]
                  have h7 := rowU_iff.1 (hm.obs d _ hd)
                  exact h7.mono fun e he _ => ⟨rfl, by simp [he], by simp [he]⟩
                · rw [if_neg hpk] at h6
                  rw [if_neg (fun e => hpk e.2)]
                  exact h6.mono fun e he _ => ⟨rfl, by rw [if_neg (by rw [he.1]; intro e; cases e; exact hid rfl)]; exact he.1, by rw [if_neg (by rw [he.1]; intro e; cases e; exact hid rfl)]; exact he.2⟩
              · rw [hole_filter_ne j' hl p r hrj]
                have eg : cellSet g k j' (.sl nn' esz' n' g') p r = g p r := if_neg (fun e => hrj e.1)
                rw [eg]
                cases hhl : hole hl p r with
                | some d2 => simp only [hhl] at h6 ⊢; exact h6
                | none =>
                  simp only [hhl] at h6 ⊢
                  exact h6.mono fun e he _ => ⟨rfl, by rw [if_neg (by rw [he.1]; intro e; cases e; exact hid rfl)]; exact he.1, by rw [if_neg (by rw [he.1]; intro e; cases e; exact hid rfl)]; exact he.2⟩
        · rename_i he
          rw [St.obj_delOb] at hob
          split at hob
          · cases hob
          · rename_i hed
            exact .inl ⟨rfl, hob, fun b hb h => ⟨by rw [if_neg (by rw [h]; intro x; cases x; exact hed rfl)]; exact h, rfl⟩⟩
  · rename_i hd
    cases h
    refine ⟨ow, hm.change rfl (fun _ => .inl rfl) (fun b hl ho => ⟨ho, rfl⟩) (fun b e he => ?_) rfl rfl rfl (Nat.le_refl _) (Nat.le_refl _) fun e o hob => ?_⟩
    · refine ⟨?_, (hm.dom b e he).2⟩
      rw [St.obj_setOb]
      split
      · rfl
      · exact (hm.dom b e he).1
    · rw [St.obj_setOb] at hob
      split at hob
      · rename_i he
        subst he
        cases hob
        refine .inr fun hF hZ hno => ?_
        rcases hm.obs i _ ho with h | ⟨b, cap, c, t, q, h4, h0, h1, h2, h3, hq, h5⟩
        · exact .inl h
        · refine .inr ⟨b, cap, c, t, q, h4, h0, h1, h2, h3, hq, fun p r hp hr => ?_⟩
          have h6 := h5 p r hp hr
          simp only [EltOk] at h6 ⊢
          by_cases hrj : r = j'
          · subst hrj
            rw [hole_filter_eq]
            rw [hh] at h6
            show RepU w _ (cellSet g k r _ p r) _
            unfold cellSet
            by_cases hpk : p = k
            · rw [if_pos ⟨rfl, hpk⟩]; exact .any _ _
            · rw [if_neg hpk] at h6
              rw [if_neg (fun e => hpk e.2)]
              exact h6
          · rw [hole_filter_ne j' hl p r hrj]
            have eg : cellSet g k j' .any p r = g p r := if_neg (fun e => hrj e.1)
            rw [eg]
            exact h6
      · exact .inl ⟨rfl, hob, fun b hb h => ⟨h, rfl⟩⟩
  · cases h
def idle (s : St) (i d : Nat) : Bool := (s.env.all fun x => x.2.noid d) && (s.H.all fun x => x.1 == i || x.2.noid d)
def St.settleL (s : St) : List (Nat × Nat × Nat) → St
  | [] => s
  | (i, j, d) :: r => if idle s i d then (match s.back i j with | some s' => s'.settleL r | none => s.settleL r) else s.settleL r
def holesOf : List (Nat × Ob) → List (Nat × Nat × Nat)
  | [] => []
  | (i, .row _ _ _ _ _ hl) :: r => (hl.map fun x => (i, x.2.1, x.2.2)) ++ holesOf r
  | (_, .box _) :: r => holesOf r
  | (_, .map _ _) :: r => holesOf r
def St.settle (s : St) : St := s.settleL (holesOf s.H)
theorem Models.settleL : ∀ (l : List (Nat × Nat × Nat)) {ow : Nat → Option Nat} {s : St}, Models cx ι ow s a w → ∃ ow', Models cx ι ow' (s.settleL l) a w
  | [], ow, s, hm => ⟨ow, hm⟩
  | (i, j, d) :: r, ow, s, hm => by
    simp only [St.settleL]
    split
    · split
      · rename_i s' hs
        obtain ⟨ow', hm'⟩ := hm.back hs
        exact Models.settleL r hm'
      · exact Models.settleL r hm
    · exact Models.settleL r hm
theorem Models.settle (hm : Models cx ι ow s a w) : ∃ ow', Models cx ι ow' s.settle a w := Models.settleL _ hm
end
end Go.Gw
