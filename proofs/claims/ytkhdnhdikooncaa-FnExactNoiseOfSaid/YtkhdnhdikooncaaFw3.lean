/- Operations with their types resolved, what they do to abstract states, and that they do so; with no condition. -/
import Derived.Test.YtkhdnhdikooncaaFw2
import Derived.Laws.Cells
import Derived.Laws.Append
import Derived.Laws.CopyRow
import Derived.Laws.Entries
namespace Go.Fw
open Go
set_option linter.unusedVariables false
set_option linter.unusedSimpArgs false

inductive IOp where
  | mov (x : Operand)
  | pick (c a b : Operand)
  | bin (op : BinOp) (x y : Operand)
  | binB (op : BinOp) (x y : Operand)
  | un (op : UnOp) (x : Operand)
  | box (n : Nat) (x : Operand)
  | alloc (zero : List Value)
  | build (zero : List Value) (ps : List (Nat × Nat × Operand))
  | mkSl (own : Bool) (esz len : Nat) (zero : List Value) (ps : List (Nat × Operand))
  | load (agg : Bool) (n : Nat) (x : Operand)
  | store (n : Nat) (x y : Operand)
  | fadr (off : Nat) (x : Operand)
  | fval (agg : Bool) (off n : Nat) (x : Operand)
  | idx (esz : Nat) (x i : Operand)
  | idxS (x i : Operand)
  | len (x : Operand)
  | lenS (x : Operand)
  | ext (x : Operand) (i : Nat)
  | mkFn (f : FuncId) (first caps : List Operand)
  | mkSlc (esz bytes : Nat) (zero : List Value) (len cap : Operand)
  | slc (esz : Nat) (x : Operand) (lo hi : Option Operand)
  | slcS (x : Operand) (lo hi : Option Operand)
  | isNil (neq : Bool) (x : Operand)
  | app (esz bytes : Nat) (zero : List Value) (s x : Operand)
  | conv (k : IntKind) (x : Operand)
  | nilck (x : Operand)
  | call (f : FuncId) (args : List Operand)
  | callv (x : Operand) (args : List Operand)

def opd (G : List (Nat × PV)) (s : St) : Operand → AV
  | .tmp t => s.get t
  | .const x => .p true (.v x)
  | .global g => match look G g with | some c => .p false c | none => .p false .any
  | .func f => .cl f [] []

def AV.mk (fr : Bool) : PV → AV
  | .v x => .p true (.v x)
  | c => .p fr c

mutual
def AV.fresh : AV → Bool
  | .p true _ => true
  | .p false (.v _) => true
  | .p false .any => true
  | .p false _ => false
  | .own _ => false
  | .adr _ _ => false
  | .elt _ _ _ _ => false
  | .ag cs => AV.freshs cs
  | .tp cs => AV.freshs cs
  | .cl _ a b => AV.freshs a && AV.freshs b
def AV.freshs : List AV → Bool
  | [] => true
  | c :: cs => AV.fresh c && AV.freshs cs
end

/-- A call with pure arguments and a pure result. 'R' holds of what is returned; old memory stays as it is. -/
def PCall (P : Program) (G : List (Nat × PV)) (f : FuncId) (args : List AV) (R : AV → Prop) : Prop :=
  (∃ fn, P.funcs[f]? = some fn ∧ fn.body.isSome = true ∧ (fn.name == "runtime.NumGoroutine") = false) ∧ ∀ (w : World) (Z0 : Nat → Prop) (vs : Array Value), vs.size = args.length →
    (∀ j c, args[j]? = some c → ∀ ι, RepA (fun _ => False) Z0 ι w c (vs.getD j undef)) →
    (∀ g c, look G g = some c → RepP Z0 w c (.pointer (some ⟨g, 0, none⟩))) →
    Calls P f vs w (fun e w' => ∃ x r, e = .returned x ∧ R r ∧
      (∀ ι, RepA (fun b => w.heap.size ≤ b) (fun b => Z0 b ∨ w.heap.size ≤ b) ι w' r x) ∧ Grows w w')

mutual
def AV.closed : AV → Bool
  | .p _ _ => true
  | .own _ => false
  | .adr _ _ => false
  | .elt _ _ _ _ => false
  | .ag cs => AV.closeds cs
  | .tp cs => AV.closeds cs
  | .cl _ a b => AV.closeds a && AV.closeds b
def AV.closeds : List AV → Bool
  | [] => true
  | c :: cs => AV.closed c && AV.closeds cs
end

mutual
theorem closed_noid : ∀ {c : AV} {i : Nat}, c.closed = true → c.noid i = true
  | .p _ _, _, _ => rfl
  | .own _, _, h => by simp [AV.closed] at h
  | .adr _ _, _, h => by simp [AV.closed] at h
  | .elt _ _ _ _, _, h => by simp [AV.closed] at h
  | .ag cs, i, h => by simp only [AV.closed, AV.noid] at *; exact closeds_noids h
  | .tp cs, i, h => by simp only [AV.closed, AV.noid] at *; exact closeds_noids h
  | .cl _ a b, i, h => by simp only [AV.closed, AV.noid, Bool.and_eq_true] at *; exact ⟨closeds_noids h.1, closeds_noids h.2⟩
theorem closeds_noids : ∀ {cs : List AV} {i : Nat}, AV.closeds cs = true → AV.noids i cs = true
  | [], _, _ => rfl
  | c :: cs, i, h => by simp only [AV.closeds, AV.noids, Bool.and_eq_true] at *; exact ⟨closed_noid h.1, closeds_noids h.2⟩
end

mutual
/-- How an argument looks to a callee: pure. -/
def AV.view (ob : Nat → Option Ob) : AV → AV
  | .p _ (.v x) => .p true (.v x)
  | .p _ c => .p false c
  | .own i => match ob i with
    | some (.row _ esz n g) => .p false (.sl false esz n g)
    | _ => .own i
  | .adr i o => .adr i o
  | .elt i a b c => .elt i a b c
  | .ag cs => .ag (AV.views ob cs)
  | .tp cs => .tp (AV.views ob cs)
  | .cl f a b => .cl f (AV.views ob a) (AV.views ob b)
def AV.views (ob : Nat → Option Ob) : List AV → List AV
  | [] => []
  | c :: cs => AV.view ob c :: AV.views ob cs
end

mutual
/-- Are objects of the caller's own lent? -/
def AV.lent : AV → Bool
  | .own _ => true
  | .ag cs => AV.lents cs
  | .tp cs => AV.lents cs
  | .cl _ a b => AV.lents a || AV.lents b
  | _ => false
def AV.lents : List AV → Bool
  | [] => false
  | c :: cs => AV.lent c || AV.lents cs
end

/-- 'det': the result is one value (asked of calls in a region that draws its order). -/
def ACall (P : Program) (G : List (Nat × PV)) (det : Bool) (f : FuncId) (args : List AV) (lent : Bool) (K : AV → Prop) : Prop :=
  AV.closeds args = true ∧ ∃ R, PCall P G f args R ∧ (det = true → ∃ r0, R r0 ∧ ∀ r, R r → r = r0) ∧ ∀ r, R r → (!lent || r.fresh) = true ∧ K r

def binI (op : BinOp) (k : IntKind) (a : Int) (k' : IntKind) (b : Int) (K : Value → Prop) : Prop :=
  match op with
  | .shl => 0 ≤ b ∧ K (.int k (k.wrap (a * 2 ^ min b.toNat k.bits)))
  | .shr => 0 ≤ b ∧ K (.int k (a.fdiv (2 ^ min b.toNat k.bits)))
  | .add => k = k' ∧ K (.int k (k.wrap (a + b)))
  | .sub => k = k' ∧ K (.int k (k.wrap (a - b)))
  | .mul => k = k' ∧ K (.int k (k.wrap (a * b)))
  | .quo => k = k' ∧ b ≠ 0 ∧ K (.int k (k.wrap (a.tdiv b)))
  | .rem => k = k' ∧ b ≠ 0 ∧ K (.int k (a.tmod b))
  | .and => k = k' ∧ K (.int k (k.wrap (BitVec.ofInt k.bits a &&& BitVec.ofInt k.bits b).toNat))
  | .or => k = k' ∧ K (.int k (k.wrap (BitVec.ofInt k.bits a ||| BitVec.ofInt k.bits b).toNat))
  | .xor => k = k' ∧ K (.int k (k.wrap (BitVec.ofInt k.bits a ^^^ BitVec.ofInt k.bits b).toNat))
  | .andNot => k = k' ∧ K (.int k (k.wrap (BitVec.ofInt k.bits a &&& ~~~ BitVec.ofInt k.bits b).toNat))
  | .eql => k = k' ∧ K (.bool (a == b))
  | .neq => k = k' ∧ K (.bool (a != b))
  | .lss => k = k' ∧ K (.bool (decide (a < b)))
  | .leq => k = k' ∧ K (.bool (decide (a ≤ b)))
  | .gtr => k = k' ∧ K (.bool (decide (b < a)))
  | .geq => k = k' ∧ K (.bool (decide (b ≤ a)))

def binS (op : BinOp) (x y : ByteArray) (K : Value → Prop) : Prop :=
  match op with
  | .add => ((x.size + y.size : Nat) : Int) ≤ IntKind.i64.max ∧ K (.string (x ++ y))
  | .eql => K (.bool (x.toList == y.toList))
  | .neq => K (.bool !(x.toList == y.toList))
  | .lss => K (.bool (Op.bytesLess x.toList y.toList))
  | .leq => K (.bool (Op.bytesLess x.toList y.toList || x.toList == y.toList))
  | .gtr => K (.bool !(Op.bytesLess x.toList y.toList || x.toList == y.toList))
  | .geq => K (.bool !(Op.bytesLess x.toList y.toList))
  | _ => False

/-- Parts of a struct or an array, as cells. -/
def AV.cells : AV → List AV
  | .ag cs => cs
  | c => [c]

def fillA : List AV → List (Nat × Nat × AV) → Option (List AV)
  | cells, [] => some cells
  | cells, (off, n, c) :: r =>
    if c.cells.length = n ∧ off + n ≤ cells.length then fillA (cells.take off ++ c.cells ++ cells.drop (off + n)) r else none

def AV.pure? : AV → Option (Bool × PV)
  | .p _ (.v x) => some (true, .v x)
  | .p fr c => some (fr, c)
  | _ => none

def PV.one : PV → Bool
  | .v (.agg _) => false
  | .v (.tuple _) => false
  | .any => false
  | _ => true

/-- The value takes one cell. -/
def AV.one (ob : Nat → Option Ob) : AV → Bool
  | .p _ c => c.one
  | .own i => (ob i).isSome
  | .adr _ _ => true
  | .elt _ _ _ _ => true
  | .cl _ _ _ => true
  | .ag _ => false
  | .tp _ => false

def St.noidB (s : St) (i : Nat) : Bool := (s.env.all fun x => x.2.noid i) && (s.H.all fun x => x.2.noid i)

/-- Operations that leave all objects alone. -/
def AQ (P : Program) (G : List (Nat × PV)) (det : Bool) (s : St) (K : AV → Prop) : IOp → Prop
  | .mov x => K (opd G s x)
  | .pick c a b => match opd G s c with
    | .p _ (.v (.bool t)) => (t = true → K (opd G s a)) ∧ (t = false → K (opd G s b))
    | _ => False
  | .bin op x y => match opd G s x, opd G s y with
    | .p _ (.v (.int k a)), .p _ (.v (.int k' b)) => binI op k a k' b fun v => K (.p true (.v v))
    | .p _ (.v (.string a)), .p _ (.v (.string b)) => binS op a b fun v => K (.p true (.v v))
    | _, _ => False
  | .binB op x y => match op, opd G s x, opd G s y with
    | .eql, .p _ (.v (.bool a)), .p _ (.v (.bool b)) => K (.p true (.v (.bool (a == b))))
    | .neq, .p _ (.v (.bool a)), .p _ (.v (.bool b)) => K (.p true (.v (.bool (!(a == b)))))
    | _, _, _ => False
  | .un op x => match op, opd G s x with
    | .not, .p _ (.v (.bool a)) => K (.p true (.v (.bool !a)))
    | .neg, .p _ (.v (.int k a)) => K (.p true (.v (.int k (k.wrap (0 - a)))))
    | _, _ => False
  | .load agg n x => match opd G s x with
    | .p fr (.pp m h) => n ≤ m ∧ if agg then K (.ag ((List.range n).map fun j => AV.mk fr (h j))) else n = 1 ∧ K (AV.mk fr (h 0))
    | .adr i off => match s.obj i with
      | some (.box cs) => off + n ≤ cs.length ∧ if agg then K (.ag ((cs.drop off).take n)) else n = 1 ∧ K (cs.getD off default)
      | _ => False
    | .elt i esz k off => match s.obj i with
      | some (.row fr esz' m g) => esz = esz' ∧ k < m ∧ off + n ≤ esz ∧
          if agg then K (.ag ((List.range n).map fun j => AV.mk fr (g k (off + j)))) else n = 1 ∧ K (AV.mk fr (g k off))
      | _ => False
    | _ => False
  | .fadr off x => match opd G s x with
    | .p fr (.pp m h) => K (.p fr (.pp (m - off) (fun j => h (off + j))))
    | .adr i o => K (.adr i (o + off))
    | .elt i esz k o => K (.elt i esz k (o + off))
    | _ => False
  | .idx esz x i => match opd G s i with
    | .p _ (.v (.int _ n)) => match opd G s x with
      | .p fr (.sl _ esz' m g) => esz = esz' ∧ 0 ≤ n ∧ n.toNat < m ∧ K (.p fr (.pp esz (g n.toNat)))
      | .own j => match s.obj j with
        | some (.row _ esz' m _) => esz = esz' ∧ 0 ≤ n ∧ n.toNat < m ∧ K (.elt j esz n.toNat 0)
        | _ => False
      | _ => False
    | _ => False
  | .len x => match opd G s x with
    | .p _ (.sl _ _ n _) => K (.p true (.v (.int .i64 n)))
    | .p _ (.v (.slice _ n _)) => K (.p true (.v (.int .i64 n)))
    | .own j => match s.obj j with
      | some (.row _ _ n _) => K (.p true (.v (.int .i64 n)))
      | _ => False
    | _ => False
  | .lenS x => match opd G s x with
    | .p _ (.v (.string b)) => K (.p true (.v (.int .i64 b.size)))
    | _ => False
  | .ext x i => match opd G s x with
    | .tp cs => match cs[i]? with
      | some c => K c
      | none => False
    | _ => False
  | .mkFn f a b => K (.cl f (a.map (opd G s)) (b.map (opd G s)))
  | .call f args => ACall P G det f (AV.views s.obj (args.map (opd G s))) (AV.lents (args.map (opd G s))) K
  | .callv x args => match opd G s x with
    | .cl f a b => ACall P G det f (AV.views s.obj (a ++ args.map (opd G s) ++ b)) (AV.lents (a ++ args.map (opd G s) ++ b)) K
    | .p fr (.cl f a b) => ACall P G det f (AV.views s.obj (a.map (AV.p fr) ++ args.map (opd G s) ++ b.map (AV.p fr))) (AV.lents (a.map (AV.p fr) ++ args.map (opd G s) ++ b.map (AV.p fr))) K
    | _ => False
  | _ => False

/-- Changes of objects. -/
def St.upd (s : St) : List (Nat × Option Ob) → St
  | [] => s
  | (i, none) :: u => (s.delOb i).upd u
  | (i, some o) :: u => (s.setOb i o).upd u

/-- Operations that make or change objects. 'd': the name of the object that is made, if one is. -/
def AW (N : St → Nat → Prop) (G : List (Nat × PV)) (s : St) (d : Nat) (K : AV → List (Nat × Option Ob) → Prop) : IOp → Prop
  | .box n x => N s d ∧ (opd G s x).cells.length = n ∧ ((opd G s x).cells.all fun c => c.one s.obj) = true ∧ K (.adr d 0) [(d, none), (d, some (.box (opd G s x).cells))]
  | .alloc zero => N s d ∧ K (.adr d 0) [(d, none), (d, some (.box (zero.map fun v => .p true (.v v))))]
  | _ => False

def IOp.isW : IOp → Bool
  | .box _ _ => true
  | .alloc _ => true
  | .mkSl _ _ _ _ _ => true
  | .store _ _ _ => true
  | .mkSlc _ _ _ _ _ => true
  | .app _ _ _ _ _ => true
  | _ => false

/-- No slot and no object speaks of object i, as can be reckoned. -/
def nB (s : St) (i : Nat) : Prop := s.noidB i = true

def AOp (P : Program) (G : List (Nat × PV)) (det : Bool) (N : St → Nat → Prop) (s : St) (d : Nat) (K : AV → St → Prop) (op : IOp) : Prop :=
  match op.isW with
  | true => AW N G s d (fun c u => K c (s.upd u)) op
  | false => AQ P G det s (fun c => K c s) op

section
variable {P : Program} {cx : Cx} {ι : Nat → Value} {s : St} {a : Act} {w : World} {d : Nat} {det : Bool}

theorem eval_rep (hm : Models cx ι s a w) (x : Operand) : RepA (zF cx ι s) (zZ cx ι s) ι w (opd cx.G s x) (a.eval x) := by
  cases x with
  | tmp t => exact hm.env t
  | const v => exact .pt _ _ (.v v)
  | global g =>
    simp only [opd, Act.eval]
    cases h : look cx.G g with
    | none => exact .pf _ _ (.any _)
    | some c => exact .pf _ _ (hm.gl g c h)
  | func f => exact .cl f [] [] #[] #[] rfl rfl (fun j c h => by simp at h) (fun j c h => by simp at h)

theorem rep_v {F Z : Nat → Prop} {fr : Bool} {x y : Value} (h : RepA F Z ι w (.p fr (.v x)) y) : y = x := by
  cases h with
  | pt _ _ h => cases h; rfl
  | pf _ _ h => cases h; rfl

theorem rep_mkv {F Z : Nat → Prop} (x : Value) : RepA F Z ι w (.p true (.v x)) x := .pt _ _ (.v x)

theorem rep_p {F Z : Nat → Prop} {fr : Bool} {c : PV} {y : Value} : RepA F Z ι w (.p fr c) y ↔ RepP (if fr then F else Z) w c y := by
  cases fr
  · exact ⟨fun h => by cases h; assumption, fun h => .pf _ _ h⟩
  · exact ⟨fun h => by cases h; assumption, fun h => .pt _ _ h⟩

theorem rep_mk {F Z : Nat → Prop} {fr : Bool} {c : PV} {y : Value} (h : RepP (if fr then F else Z) w c y) : RepA F Z ι w (AV.mk fr c) y := by
  unfold AV.mk
  split
  · cases h; exact rep_mkv _
  · exact rep_p.2 h

theorem freshs_get : ∀ (l : List AV) (j : Nat) (c : AV), AV.freshs l = true → l[j]? = some c → c.fresh = true
  | [], j, c, _, h => by simp at h
  | d :: l, 0, c, hf, hj => by
    simp only [AV.freshs, Bool.and_eq_true] at hf
    simp only [List.getElem?_cons_zero, Option.some.injEq] at hj
    exact hj ▸ hf.1
  | d :: l, j + 1, c, hf, hj => by
    simp only [AV.freshs, Bool.and_eq_true] at hf
    exact freshs_get l j c hf.2 (by simpa using hj)

theorem rep_fresh {F Z Z' : Nat → Prop} : ∀ {c : AV} {x : Value}, RepA F Z ι w c x → c.fresh = true → RepA F Z' ι w c x := by
  intro c x h
  induction h with
  | pt c x h => exact fun _ => .pt _ _ h
  | pf c x h =>
    intro hf
    cases h with
    | v => exact .pf _ _ (.v _)
    | any => exact .pf _ _ (.any _)
    | nil => simp [AV.fresh] at hf
    | sl => simp [AV.fresh] at hf
    | pp => simp [AV.fresh] at hf
    | cl => simp [AV.fresh] at hf
  | own i => intro hf; simp [AV.fresh] at hf
  | adr i off b h => intro hf; simp [AV.fresh] at hf
  | elt i esz k off b n cap h => intro hf; simp [AV.fresh] at hf
  | ag cs xs h1 h2 ih =>
    intro hf
    simp only [AV.fresh] at hf
    exact .ag cs xs h1 fun j c hj => ih j c hj (freshs_get _ _ _ hf hj)
  | tp cs xs h1 h2 ih =>
    intro hf
    simp only [AV.fresh] at hf
    exact .tp cs xs h1 fun j c hj => ih j c hj (freshs_get _ _ _ hf hj)
  | cl f first caps fs cs h1 h2 h3 h4 ih3 ih4 =>
    intro hf
    simp only [AV.fresh, Bool.and_eq_true] at hf
    exact .cl f first caps fs cs h1 h2 (fun j c hj => ih3 j c hj (freshs_get _ _ _ hf.1 hj)) (fun j c hj => ih4 j c hj (freshs_get _ _ _ hf.2 hj))

theorem run_equal_bool {t : TypeId} (ht : P.underlying t = some .bool) (a b : Bool) (w : World) : (Op.equal t (.bool a) (.bool b)).run P w = .ok (a == b) w := by
  have key : ∀ d : Nat, (Op.equalIn (d + 1) t (.bool a) (.bool b)).run P w = .ok (a == b) w := fun d => by
    simp only [Op.equalIn, Sem.run_bind, run_underlying ht, Result.andThen_ok, Sem.run_pure]
  exact key 9999

theorem run_size {t : TypeId} {n : Nat} (h : (P.info? t).map (·.size) = some n) (w : World) : (sizeOf t).run P w = .ok n w := by
  cases hi : P.info? t with
  | none => simp [hi] at h
  | some i => simp [hi] at h; simp [sizeOf, typeInfo, hi, h]

/-- What an operation does, in all worlds that the state describes. -/
def Does (P : Program) (cx : Cx) (s : St) (op : Op) (ty : TypeId) (K : AV → St → Prop) : Prop :=
  ∀ ι a w, Models cx ι s a w → ∀ (o : Oper), o.op = op → o.type = ty → ∀ (next : Act → World → Prop) (Q : Exit → Act → World → Prop),
    (∀ ι' c s' v w', K c s' → Models cx ι' s' a w' → RepA (zF cx ι' s') (zZ cx ι' s') ι' w' c v → next (a.put o.dst v) w') → o.wp P a w next Q

/-- The operation yields a value in the very world. -/
theorem Does.value {op : Op} {ty : TypeId} {K : AV → St → Prop}
    (h : ∀ ι a w, Models cx ι s a w → ∃ c v, K c s ∧ RepA (zF cx ι s) (zZ cx ι s) ι w c v ∧ ∀ o : Oper, o.op = op → o.type = ty → (execOp a.eval o).run P w = .ok (.value v) w) :
    Does P cx s op ty K := by
  intro ι a w hm o ho hty next Q hn
  obtain ⟨c, v, hk, hr, he⟩ := h ι a w hm
  unfold Oper.wp
  rw [he o ho hty, Oper.upon_value]
  exact hn ι c s v w hk hm hr

theorem does_mov {K : AV → St → Prop} {x : Operand} {ty : TypeId} (h : AOp P cx.G det St.noid s d K (.mov x)) : Does P cx s (.move x) ty K :=
  .value fun ι a w hm => ⟨_, _, h, eval_rep hm x, fun o ho _ => by simp [execOp, ho]⟩

theorem does_assign {K : AV → St → Prop} {x : Operand} {ty : TypeId} (h : AOp P cx.G det St.noid s d K (.mov x)) : Does P cx s (.assign x) ty K :=
  .value fun ι a w hm => ⟨_, _, h, eval_rep hm x, fun o ho _ => by simp [execOp, ho]⟩

theorem does_pick {K : AV → St → Prop} {c x y : Operand} {ty : TypeId} (h : AOp P cx.G det St.noid s d K (.pick c x y)) : Does P cx s (.pick c x y) ty K := by
  simp only [AOp, IOp.isW, AQ] at h
  split at h
  · rename_i fr t hc
    refine .value fun ι a w hm => ?_
    have he := eval_rep hm c
    rw [hc] at he
    have he := rep_v he
    cases t with
    | true => exact ⟨_, _, h.1 rfl, eval_rep hm x, fun o ho _ => by simp [execOp, ho, he, asBool]⟩
    | false => exact ⟨_, _, h.2 rfl, eval_rep hm y, fun o ho _ => by simp [execOp, ho, he, asBool]⟩
  · exact h.elim

theorem does_bin {K : AV → St → Prop} {op : BinOp} {t u : TypeId} {x y : Operand} {ty : TypeId} (h : AOp P cx.G det St.noid s d K (.bin op x y)) : Does P cx s (.binOp op t x y u) ty K := by
  simp only [AOp, IOp.isW, AQ] at h
  split at h
  · rename_i fr k n fr' k' m hx hy
    refine .value fun ι a w hm => ?_
    have h1 := eval_rep hm x
    have h2 := eval_rep hm y
    rw [hx] at h1
    rw [hy] at h2
    have h1 := rep_v h1
    have h2 := rep_v h2
    have hg : ∀ op, (eqGuard op t x y (.int k n) (.int k' m)).run P w = .ok () w := by intro op; cases op <;> simp [eqGuard]
    cases op <;> simp only [binI] at h
    case quo => obtain ⟨rfl, h0, h⟩ := h; exact ⟨_, _, h, rep_mkv _, fun o ho _ => by simp [execOp, ho, h1, h2, binOp, hg, Op.intDiv, h0]⟩
    case rem => obtain ⟨rfl, h0, h⟩ := h; exact ⟨_, _, h, rep_mkv _, fun o ho _ => by simp [execOp, ho, h1, h2, binOp, hg, Op.intDiv, h0]⟩
    case shl => obtain ⟨h0, h⟩ := h; exact ⟨_, _, h, rep_mkv _, fun o ho _ => by simp [execOp, ho, h1, h2, binOp, hg, Op.shift, Int.not_lt.2 h0]⟩
    case shr => obtain ⟨h0, h⟩ := h; exact ⟨_, _, h, rep_mkv _, fun o ho _ => by simp [execOp, ho, h1, h2, binOp, hg, Op.shift, Int.not_lt.2 h0]⟩
    all_goals
      obtain ⟨rfl, h⟩ := h
      exact ⟨_, _, h, rep_mkv _, fun o ho _ => by simp [execOp, ho, h1, h2, binOp, hg, Op.intArith, Op.intBits, Op.intCmp]⟩
  · rename_i fr n fr' m hx hy
    refine .value fun ι a w hm => ?_
    have h1 := eval_rep hm x
    have h2 := eval_rep hm y
    rw [hx] at h1
    rw [hy] at h2
    have h1 := rep_v h1
    have h2 := rep_v h2
    have hg : ∀ op, (eqGuard op t x y (.string n) (.string m)).run P w = .ok () w := by intro op; cases op <;> simp [eqGuard]
    cases op <;> simp only [binS] at h
    case add => obtain ⟨h0, h⟩ := h; exact ⟨_, _, h, rep_mkv _, fun o ho _ => by simp only [execOp, ho, h1, h2, binOp, Sem.run_bind, hg, Op.stringOp, Result.andThen_ok]; rw [if_neg (by omega)]; simp⟩
    all_goals first
      | exact h.elim
      | exact ⟨_, _, h, rep_mkv _, fun o ho _ => by simp [execOp, ho, h1, h2, binOp, hg, Op.stringOp]⟩
  · exact h.elim

theorem does_binB {K : AV → St → Prop} {op : BinOp} {t u : TypeId} {x y : Operand} {ty : TypeId} (ht : P.underlying t = some .bool) (h : AOp P cx.G det St.noid s d K (.binB op x y)) : Does P cx s (.binOp op t x y u) ty K := by
  simp only [AOp, IOp.isW, AQ] at h
  split at h
  · rename_i hx hy
    refine .value fun ι a w hm => ?_
    have h1 := eval_rep hm x
    have h2 := eval_rep hm y
    rw [hx] at h1
    rw [hy] at h2
    exact ⟨_, _, h, rep_mkv _, fun o ho _ => by simp [execOp, ho, rep_v h1, rep_v h2, binOp, eqGuard, run_equal_bool ht]⟩
  · rename_i hx hy
    refine .value fun ι a w hm => ?_
    have h1 := eval_rep hm x
    have h2 := eval_rep hm y
    rw [hx] at h1
    rw [hy] at h2
    exact ⟨_, _, h, rep_mkv _, fun o ho _ => by simp [execOp, ho, rep_v h1, rep_v h2, binOp, eqGuard, run_equal_bool ht]⟩
  · exact h.elim

theorem does_un {K : AV → St → Prop} {op : UnOp} {t : TypeId} {x : Operand} {ty : TypeId} (h : AOp P cx.G det St.noid s d K (.un op x)) : Does P cx s (.unOp op t x) ty K := by
  simp only [AOp, IOp.isW, AQ] at h
  split at h
  · rename_i hx
    refine .value fun ι a w hm => ?_
    have h1 := eval_rep hm x
    rw [hx] at h1
    exact ⟨_, _, h, rep_mkv _, fun o ho _ => by simp [execOp, ho, rep_v h1, Op.unary]⟩
  · rename_i hx
    refine .value fun ι a w hm => ?_
    have h1 := eval_rep hm x
    rw [hx] at h1
    exact ⟨_, _, h, rep_mkv _, fun o ho _ => by simp [execOp, ho, rep_v h1, Op.unary, Op.intArith]⟩
  · exact h.elim

theorem does_ext {K : AV → St → Prop} {x : Operand} {i : Nat} {ty : TypeId} (h : AOp P cx.G det St.noid s d K (.ext x i)) : Does P cx s (.extract x i) ty K := by
  simp only [AOp, IOp.isW, AQ] at h
  split at h
  · rename_i cs hx
    split at h
    · rename_i c hc
      refine .value fun ι a w hm => ?_
      have h1 := eval_rep hm x
      rw [hx] at h1
      generalize he : a.eval x = y at h1
      cases h1 with
      | tp _ xs h1 h2 =>
        have hi : i < xs.size := by rw [h1]; exact (List.getElem?_eq_some_iff.1 hc).1
        exact ⟨c, _, h, h2 i c hc, fun o ho _ => by simp [execOp, ho, he, Instr.extract, hi, Array.getD_eq_getD_getElem?]⟩
    · exact h.elim
  · exact h.elim

theorem does_mkFn {K : AV → St → Prop} {f : FuncId} {fs caps : Array Operand} {ty : TypeId} (h : AOp P cx.G det St.noid s d K (.mkFn f fs.toList caps.toList)) : Does P cx s (.makeFunc (.func f) fs caps) ty K := by
  simp only [AOp, IOp.isW, AQ] at h
  refine .value fun ι a w hm => ⟨_, .func (.func f) (fs.map a.eval) (caps.map a.eval), h, ?_, fun o ho _ => by simp [execOp, ho, Instr.makeFunc]⟩
  refine .cl f _ _ _ _ (by simp) (by simp) (fun j c hj => ?_) (fun j c hj => ?_)
  · simp only [List.getElem?_map, Option.map_eq_some_iff] at hj
    obtain ⟨x, hx, rfl⟩ := hj
    have : (fs.map a.eval).getD j undef = a.eval x := by
      simp only [Array.getElem?_toList] at hx
      simp [Array.getD_eq_getD_getElem?, hx]
    rw [this]
    exact eval_rep hm x
  · simp only [List.getElem?_map, Option.map_eq_some_iff] at hj
    obtain ⟨x, hx, rfl⟩ := hj
    have : (caps.map a.eval).getD j undef = a.eval x := by
      simp only [Array.getElem?_toList] at hx
      simp [Array.getD_eq_getD_getElem?, hx]
    rw [this]
    exact eval_rep hm x

theorem does_fadr {K : AV → St → Prop} {x : Operand} {t : TypeId} {i : Nat} {fs : Array Field} {f : Field} {ty : TypeId}
    (ht : P.underlying t = some (.struct fs)) (hf : fs[i]? = some f) {n : Nat} (hn : (P.info? f.type).map (·.size) = some n) (hn0 : n ≠ 0)
    (h : AOp P cx.G det St.noid s d K (.fadr f.offset x)) : Does P cx s (.fieldAddr t x i) ty K := by
  simp only [AOp, IOp.isW, AQ] at h
  have hrun : ∀ (a : Act) (w : World) (b off : Nat), a.eval x = .pointer (some ⟨b, off, none⟩) → ∀ o : Oper, o.op = .fieldAddr t x i →
      (execOp a.eval o).run P w = .ok (.value (.pointer (some ⟨b, off + f.offset, none⟩))) w := by
    intro a w b off he o ho
    have hadd : (⟨b, off, none⟩ : Addr).add f.offset = ⟨b, off + f.offset, none⟩ := by unfold Addr.add; split <;> simp_all
    simp [execOp, ho, he, Instr.fieldAt, run_underlying ht, hf, Instr.sureAddr, fieldPlace, run_size hn, hn0, hadd]
  split at h
  · rename_i fr m g hx
    refine .value fun ι a w hm => ?_
    have h1 := eval_rep hm x
    rw [hx, rep_p] at h1
    generalize he : a.eval x = y at h1
    cases h1 with
    | pp _ _ b off val hc hr hz =>
      refine ⟨_, _, h, rep_p.2 ?_, fun o ho _ => hrun a w b off he o ho⟩
      refine .pp _ _ b (off + f.offset) (fun j => val (f.offset + j)) (fun j hj => ?_) (fun j hj => ?_) (fun j hj => ?_)
      · rw [show off + f.offset + j = off + (f.offset + j) by omega]; exact hc _ (by omega)
      · exact hr _ (by omega)
      · exact hz (f.offset + j) (by omega)
  · rename_i k off hx
    refine .value fun ι a w hm => ?_
    have h1 := eval_rep hm x
    rw [hx] at h1
    generalize he : a.eval x = y at h1
    cases h1 with
    | adr _ _ b hb => exact ⟨_, _, h, .adr k _ b hb, fun o ho _ => hrun a w b off he o ho⟩
  · rename_i k esz m off hx
    refine .value fun ι a w hm => ?_
    have h1 := eval_rep hm x
    rw [hx] at h1
    generalize he : a.eval x = y at h1
    cases h1 with
    | elt _ _ _ _ b n cap hb => exact ⟨_, _, h, .elt k esz m _ b n cap hb, fun o ho _ => by rw [hrun a w b _ he o ho, Nat.add_assoc]⟩
  · exact h.elim
end
end Go.Fw
