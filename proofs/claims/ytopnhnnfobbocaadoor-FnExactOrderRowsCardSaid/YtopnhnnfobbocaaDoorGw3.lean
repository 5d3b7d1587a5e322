/- Operations with their types resolved, and what they do to abstract states, as data; with no condition. -/
import Derived.Test.YtopnhnnfobbocaaDoorGw2
namespace Go.Gw
open Go
set_option linter.unusedVariables false
set_option linter.unusedSimpArgs false

inductive IOp where
  | mov (x : Operand)
  | pick (c a b : Operand)
  | bin (op : BinOp) (x y : Operand)
  | binB (op : BinOp) (x y : Operand)
  | un (op : UnOp) (x : Operand)
  | box (n : Nat) (x : Operand)
  | alloc (zero : List Value)
  | build (zero : List Value) (ps : List (Nat × Nat × Operand))
  | mkSl (esz len : Nat) (zero : List Value) (ps : List (Nat × Operand))
  | load (agg : Bool) (n : Nat) (x : Operand)
  | store (n : Nat) (x y : Operand)
  | fadr (off : Nat) (x : Operand)
  | fval (agg : Bool) (off n : Nat) (x : Operand)
  | idx (esz : Nat) (x i : Operand)
  | idxS (x i : Operand)
  | len (x : Operand)
  | lenS (x : Operand)
  | ext (x : Operand) (i : Nat)
  | mkFn (f : FuncId) (first caps : List Operand)
  | mkSlc (esz bytes : Nat) (zero : List Value) (len cap : Operand)
  | slc (esz : Nat) (x : Operand) (lo hi : Option Operand)
  | slcS (x : Operand) (lo hi : Option Operand)
  | slc0 (esz : Nat) (x : Operand)
  | isNil (neq : Bool) (x : Operand)
  | app (esz bytes : Nat) (scal : Bool) (s x : Operand)
  | conv (k : IntKind) (x : Operand)
  | nilck (x : Operand)
  | mm (mx : Bool) (x y : Operand)
  | b2s (x : Operand)
  | eqA (neq : Bool) (x y : Operand)
  | mkM
  | lookM (zero : Value) (x i : Operand)
  | updM (x i v : Operand)
  | lenM (x : Operand)
  | bad (l : List Operand)
  | call (f : FuncId) (args : List Operand)
  | callv (x : Operand) (args : List Operand)

def IOp.opds : IOp → List Operand
  | .mov x => [x]
  | .pick c a b => [c, a, b]
  | .bin _ x y => [x, y]
  | .binB _ x y => [x, y]
  | .un _ x => [x]
  | .box _ x => [x]
  | .alloc _ => []
  | .build _ ps => ps.map fun p => p.2.2
  | .mkSl _ _ _ ps => ps.map fun p => p.2
  | .load _ _ x => [x]
  | .store _ x y => [x, y]
  | .fadr _ x => [x]
  | .fval _ _ _ x => [x]
  | .idx _ x i => [x, i]
  | .idxS x i => [x, i]
  | .len x => [x]
  | .lenS x => [x]
  | .ext x _ => [x]
  | .mkFn _ a b => a ++ b
  | .mkSlc _ _ _ a b => [a, b]
  | .slc _ x lo hi => x :: (lo.toList ++ hi.toList)
  | .slcS x lo hi => x :: (lo.toList ++ hi.toList)
  | .slc0 _ x => [x]
  | .isNil _ x => [x]
  | .app _ _ _ a b => [a, b]
  | .conv _ x => [x]
  | .nilck x => [x]
  | .mm _ x y => [x, y]
  | .b2s x => [x]
  | .eqA _ x y => [x, y]
  | .mkM => []
  | .lookM _ x i => [x, i]
  | .updM x i v => [x, i, v]
  | .lenM x => [x]
  | .bad l => l
  | .call _ args => args
  | .callv x args => x :: args

/-- The names of what comes along. -/
def nm (d j : Nat) : Nat := 1000 * (j + 1) + d

/-- The names of the objects that may be made. -/
def IOp.fresh (d : Nat) : IOp → List Nat
  | .box _ _ => [d]
  | .alloc _ => [d]
  | .mkSl _ _ _ _ => [d]
  | .mkSlc _ _ _ _ _ => [d]
  | .app _ _ _ _ _ => [d]
  | .slc _ _ _ _ => [d]
  | .slc0 _ _ => [d]
  | .mkM => [d]
  | .load _ n _ => (List.range n).map (nm d)
  | .call _ _ => (List.range 8).map (nm d)
  | .callv _ _ => (List.range 8).map (nm d)
  | _ => []

def opt : Option Prop → Prop
  | none => True
  | some p => p

def opd (G : List (Nat × PV)) (s : St) : Operand → AV
  | .tmp t => s.get t
  | .const x => match x with
    | .agg xs => .ag (xs.toList.map fun v => .p true (.v v))
    | x => .p true (.v x)
  | .global g => match look G g with | some c => .p false c | none => .p false .any
  | .func f => .cl f [] []

def AV.mk (fr : Bool) : PV → AV
  | .v x => .p true (.v x)
  | c => .p fr c

mutual
/-- Nothing in the value was there before the call. -/
def AV.fresh : AV → Bool
  | .p true _ => true
  | .p false (.v _) => true
  | .p false .any => true
  | .p false _ => false
  | .own _ => true
  | .adr _ _ => true
  | .elt _ _ _ _ => true
  | .ag cs => AV.freshs cs
  | .tp cs => AV.freshs cs
  | .cl _ a b => AV.freshs a && AV.freshs b
def AV.freshs : List AV → Bool
  | [] => true
  | c :: cs => AV.fresh c && AV.freshs cs
end

def Ob.fresh : Ob → Bool
  | .box cs => AV.freshs cs
  | .row m _ _ _ _ _ => m != .z
  | .map _ _ => true

mutual
/-- The objects that a value speaks of. -/
def AV.ids : AV → List Nat
  | .p _ _ => []
  | .own i => [i]
  | .adr i _ => [i]
  | .elt i _ _ _ => [i]
  | .ag cs => AV.idss cs
  | .tp cs => AV.idss cs
  | .cl _ a b => AV.idss a ++ AV.idss b
def AV.idss : List AV → List Nat
  | [] => []
  | c :: cs => AV.ids c ++ AV.idss cs
end

/-- Parts of a struct or an array, as cells. -/
def AV.cells : AV → List AV
  | .ag cs => cs
  | c => [c]

def PV.one : PV → Bool
  | .v (.agg _) => false
  | .v (.tuple _) => false
  | .any => false
  | .nm _ c => c.one
  | _ => true

/-- The value takes one cell. -/
def AV.one (ob : Nat → Option Ob) : AV → Bool
  | .p _ c => c.one
  | .own i => (ob i).isSome
  | .adr _ _ => true
  | .elt _ _ _ _ => true
  | .cl _ _ _ => true
  | .ag _ => false
  | .tp _ => false

def fillA : List AV → List (Nat × Nat × AV) → Option (List AV)
  | cells, [] => some cells
  | cells, (off, n, c) :: r =>
    if c.cells.length = n ∧ off + n ≤ cells.length then fillA (cells.take off ++ c.cells ++ cells.drop (off + n)) r else none

def Mode.min : Mode → Mode → Mode
  | .u, m => m
  | m, .u => m
  | .f, .f => .f
  | _, _ => .z

/-- A cell's content as data, and the row that goes into it. -/
def AV.pc (ob : Nat → Option Ob) : AV → Option (Mode × PV × List Nat)
  | .p fr c => match c.one with
    | true => some (match c with | .v _ => .u | _ => if fr then .f else .z, c, [])
    | false => none
  | .own j => match ob j with
    | some (.row m nn e n g []) => some (m, .sl nn e n g, [j])
    | _ => none
  | _ => none

def posn (k off : Nat) : List AV → List (Nat × Nat × AV)
  | [] => []
  | c :: cs => (k, off, c) :: posn k (off + 1) cs

/-- Cells at their places, as data, and the rows that go into them. -/
def pcl (ob : Nat → Option Ob) : List (Nat × Nat × AV) → Option (Mode × List (Nat × Nat × PV) × List (Nat × (Nat × Nat)))
  | [] => some (.u, [], [])
  | (k, j, c) :: r => match c.pc ob, pcl ob r with
    | some (m, x, dd), some (m', xs, mv) => some (m.min m', (k, j, x) :: xs, dd.map (fun i => (i, (k, j))) ++ mv)
    | _, _ => none

def setG : List (Nat × Nat × PV) → (Nat → Nat → PV) → Nat → Nat → PV
  | [], g => g
  | (k, j, x) :: r, g => setG r (cellSet g k j x)

/-- The numbers of a row that is written out in order. -/
def ordI : Nat → List (Nat × Nat × PV) → Option (List Int)
  | _, [] => some []
  | i, (k, j, x) :: r => match x with
    | .v (.int .i64 n) => match Nat.beq k i && Nat.beq j 0 with
      | true => (ordI (i + 1) r).map (n :: ·)
      | false => none
    | _ => none
def litI (l : List Int) (i : Nat) : Int := l.getD i 0
/-- The elements of a row that is written out. -/
def mkG (esz len : Nat) (xs : List (Nat × Nat × PV)) (zero : List Value) : Nat → Nat → PV := match Nat.blt 1 len && Nat.beq esz 1 with
  | true => match ordI 0 xs with
    | some l => match Nat.beq l.length len with
      | true => fun i _ => .v (.int .i64 (litI l i))
      | false => setG xs fun _ j => .v (zero.getD j undef)
    | none => setG xs fun _ j => .v (zero.getD j undef)
  | false => setG xs fun _ j => .v (zero.getD j undef)

def nodupB : List Nat → Bool
  | [] => true
  | x :: l => !l.contains x && nodupB l

def delU (l : List Nat) : Upd := l.map fun j => (j, none)

def asI : AV → Option Int
  | .p _ (.v (.int _ a)) => some a
  | _ => none
def bnds : Bool → Bool → Nat → List AV → Option (Int × Int)
  | true, true, _, [x, y] => match asI x, asI y with
    | some a, some b => some (a, b)
    | _, _ => none
  | true, false, n, [x] => match asI x with
    | some a => some (a, n)
    | none => none
  | false, true, _, [y] => match asI y with
    | some b => some (0, b)
    | none => none
  | false, false, n, [] => some (0, n)
  | _, _, _, _ => none

def byteOf : PV → UInt8
  | .v (.int _ m) => UInt8.ofNat m.toNat
  | _ => 0
def bytesOf (n : Nat) (g : Nat → Nat → PV) : ByteArray := ⟨((List.range n).map fun i => byteOf (g i 0)).toArray⟩

def PV.isV : PV → Bool
  | .v x => PV.one (.v x)
  | _ => false

/-- All cells are plain values. -/
def allV (esz n : Nat) (g : Nat → Nat → PV) : Prop := ∀ i j, i < n → j < esz → (g i j).isV = true
/-- All cells are one cell. -/
def allOne (esz n : Nat) (g : Nat → Nat → PV) : Prop := ∀ i j, i < n → j < esz → (g i j).one = true

/-- Where an append takes its elements from: how many, which; their mode; the row that goes along; what is to be shown. -/
def srcOf (ob : Nat → Option Ob) (esz : Nat) (scal : Bool) : AV → Option (Nat × (Nat → Nat → PV) × Mode × List Nat × Option Prop)
  | .p fr (.sl _ e n g) => match e == esz with
    | true => some (n, g, match scal with | true => .u | false => if fr then .f else .z, [], match scal with | true => some (allV esz n g) | false => some (allOne esz n g))
    | false => none
  | .p _ (.v (.slice none 0 0)) => some (0, fun _ _ => .any, .u, [], none)
  | .own j => match ob j with
    | some (.row m _ e n g []) => match e == esz with
      | true => match scal with
        | true => some (n, g, .u, [], some (allV esz n g))
        | false => some (n, g, m, [j], some (allOne esz n g))
      | false => none
    | _ => none
  | _ => none

/-- Cells of a row of which nobody else speaks, as values: what is read, what is to be shown, cells that lie in objects of their own now, these objects. -/
def extr (g : Nat → Nat → PV) (k : Nat) (hl : List (Nat × Nat × Nat)) (d : Nat) : List (Nat × Nat) → Option (List AV × List Prop × List (Nat × Nat × Nat) × List (Nat × Ob))
  | [] => some ([], [], [], [])
  | (i, j) :: r => match extr g k hl d r with
    | none => none
    | some (cs, ps, hs, os) => match hl.filter fun x => x.2.1 == j with
      | (k', _, e) :: _ => some (.own e :: cs, (k = k') :: ps, hs, os)
      | [] => match g k j with
        | .v x => some (.p true (.v x) :: cs, ps, hs, os)
        | .sl nn e n g' => some (.own (nm d i) :: cs, ps, (k, j, nm d i) :: hs, (nm d i, .row .u nn e n g' []) :: os)
        | _ => none

def andP : List Prop → Option Prop
  | [] => none
  | [p] => some p
  | p :: l => match andP l with
    | some q => some (p ∧ q)
    | none => some p

/-- The columns from off on, n of them, with their numbers. -/
def colsFrom (off : Nat) : Nat → Nat → List (Nat × Nat)
  | _, 0 => []
  | i, n + 1 => (i, off + i) :: colsFrom off (i + 1) n

/-- The changes that come with cells that lie in objects of their own now. -/
def extU (i : Nat) (o : Ob) (os : List (Nat × Ob)) : List (Nat × Nat × Nat) → Upd
  | [] => []
  | _ :: _ => (i, some o) :: os.map fun x => (x.1, some x.2)

inductive Cnd where
  | fail
  | val (b : Bool) (p : Option Prop) (c : AV) (u : Upd)
  | ite (b : Bool) (c d : AV)
  | either (p : Prop) (c d : AV)
  | call (f : FuncId) (args : List AV)

def binR (op : BinOp) (k : IntKind) (a : Int) (k' : IntKind) (b : Int) : Cnd :=
  match op with
  | .shl => .val true (some (0 ≤ b)) (.p true (.v (.int k (k.wrap (a * 2 ^ min b.toNat k.bits))))) []
  | .shr => .val true (some (0 ≤ b)) (.p true (.v (.int k (a.fdiv (2 ^ min b.toNat k.bits))))) []
  | .add => .val (decide (k = k')) none (.p true (.v (.int k (k.wrap (a + b))))) []
  | .sub => .val (decide (k = k')) none (.p true (.v (.int k (k.wrap (a - b))))) []
  | .mul => .val (decide (k = k')) none (.p true (.v (.int k (k.wrap (a * b))))) []
  | .quo => .val (decide (k = k')) (some (b ≠ 0)) (.p true (.v (.int k (k.wrap (a.tdiv b))))) []
  | .rem => .val (decide (k = k')) (some (b ≠ 0)) (.p true (.v (.int k (a.tmod b)))) []
  | .and => .val (decide (k = k')) none (.p true (.v (.int k (k.wrap (BitVec.ofInt k.bits a &&& BitVec.ofInt k.bits b).toNat)))) []
  | .or => .val (decide (k = k')) none (.p true (.v (.int k (k.wrap (BitVec.ofInt k.bits a ||| BitVec.ofInt k.bits b).toNat)))) []
  | .xor => .val (decide (k = k')) none (.p true (.v (.int k (k.wrap (BitVec.ofInt k.bits a ^^^ BitVec.ofInt k.bits b).toNat)))) []
  | .andNot => .val (decide (k = k')) none (.p true (.v (.int k (k.wrap (BitVec.ofInt k.bits a &&& ~~~ BitVec.ofInt k.bits b).toNat)))) []
  | .eql => .val (decide (k = k')) none (.p true (.v (.bool (a == b)))) []
  | .neq => .val (decide (k = k')) none (.p true (.v (.bool (a != b)))) []
  | .lss => .val (decide (k = k')) none (.p true (.v (.bool (decide (a < b))))) []
  | .leq => .val (decide (k = k')) none (.p true (.v (.bool (decide (a ≤ b))))) []
  | .gtr => .val (decide (k = k')) none (.p true (.v (.bool (decide (b < a))))) []
  | .geq => .val (decide (k = k')) none (.p true (.v (.bool (decide (b ≤ a))))) []

def strR (op : BinOp) (x y : ByteArray) : Cnd :=
  match op with
  | .add => .val true (some (((x.size + y.size : Nat) : Int) ≤ IntKind.i64.max)) (.p true (.v (.string (x ++ y)))) []
  | .eql => .val true none (.p true (.v (.bool (x.toList == y.toList)))) []
  | .neq => .val true none (.p true (.v (.bool !(x.toList == y.toList)))) []
  | .lss => .val true none (.p true (.v (.bool (Op.bytesLess x.toList y.toList)))) []
  | .leq => .val true none (.p true (.v (.bool (Op.bytesLess x.toList y.toList || x.toList == y.toList)))) []
  | .gtr => .val true none (.p true (.v (.bool !(Op.bytesLess x.toList y.toList || x.toList == y.toList)))) []
  | .geq => .val true none (.p true (.v (.bool !(Op.bytesLess x.toList y.toList)))) []
  | _ => .fail

def mkCl (fr : Bool) : PV → AV := AV.mk fr

/-- What an operation comes to. 'vs': its operands' values; 'd': the name of what it makes. -/
def res (ob : Nat → Option Ob) (d : Nat) (vs : List AV) : IOp → Cnd
  | .mov _ => match vs with
    | [c] => .val true none c []
    | _ => .fail
  | .pick _ _ _ => match vs with
    | [.p _ (.v (.bool t)), a, b] => .ite t a b
    | _ => .fail
  | .bin op _ _ => match vs with
    | [.p _ (.v (.int k a)), .p _ (.v (.int k' b))] => binR op k a k' b
    | [.p _ (.v (.string a)), .p _ (.v (.string b))] => strR op a b
    | _ => .fail
  | .binB op _ _ => match vs with
    | [.p _ (.v (.bool a)), .p _ (.v (.bool b))] => match op with
      | .eql => .val true none (.p true (.v (.bool (a == b)))) []
      | .neq => .val true none (.p true (.v (.bool (!(a == b))))) []
      | _ => .fail
    | _ => .fail
  | .un op _ => match vs with
    | [.p _ (.v (.bool a))] => match op with
      | .not => .val true none (.p true (.v (.bool !a))) []
      | _ => .fail
    | [.p _ (.v (.int k a))] => match op with
      | .neg => .val true none (.p true (.v (.int k (k.wrap (0 - a))))) []
      | _ => .fail
    | _ => .fail
  | .box n _ => match vs with
    | [x] => .val (decide (x.cells.length = n) && (x.cells.all fun c => c.one ob)) none (.adr d 0) [(d, some (.box x.cells))]
    | _ => .fail
  | .alloc zero => .val true none (.adr d 0) [(d, some (.box (zero.map fun v => .p true (.v v))))]
  | .build zero ps => match fillA (zero.map fun v => .p true (.v v)) ((ps.zip vs).map fun x => (x.1.1, x.1.2.1, x.2)) with
    | some cs => .val (decide (ps.length = vs.length) && vs.all fun v => v.cells.all fun c => c.one ob) none (.ag cs) []
    | none => .fail
  | .mkSl esz len zero ps => match pcl ob (((ps.map Prod.fst).zip vs).flatMap fun x => posn x.1 0 x.2.cells) with
    | some (m, xs, mv) => .val (decide (0 < esz ∧ len * esz ≤ 2 ^ 24 ∧ zero.length = esz ∧ ps.length = vs.length) && vs.all (fun v => decide (v.cells.length = esz)) && ps.all (fun p => decide (p.1 < len)) && nodupB (mv.map Prod.fst) && !(mv.map Prod.fst).contains d) none (.own d)
        (delU (mv.map Prod.fst) ++ [(d, some (.row m true esz len (mkG esz len xs zero) []))])
    | none => .fail
  | .load agg n _ => match vs with
    | [.p fr (.pp m h)] => match agg with
      | true => .val (decide (n ≤ m)) none (.ag ((List.range n).map fun j => AV.mk fr (h j))) []
      | false => .val (decide (n ≤ m) && decide (n = 1)) none (AV.mk fr (h 0)) []
    | [.adr i off] => match ob i with
      | some (.box cs) => match agg with
        | true => .val (decide (off + n ≤ cs.length)) none (.ag ((cs.drop off).take n)) []
        | false => .val (decide (off + n ≤ cs.length) && decide (n = 1)) none (cs.getD off default) []
      | _ => .fail
    | [.elt i esz k off] => match ob i with
      | some (.row m nn esz' n' g hl) => match m with
        | .u => match extr g k hl d (colsFrom off 0 n) with
          | some (cs, ps, hs, os) => match (if agg then some (AV.ag cs) else cs.head?) with
            | some c => .val (decide (esz = esz') && decide (off + n ≤ esz) && (agg || decide (n = 1))) (andP ((k < n') :: ps)) c
                (extU i (.row .u nn esz n' g (hs ++ hl)) os hs)
            | none => .fail
          | none => .fail
        | .z => match agg with
          | true => .val (decide (esz = esz') && decide (off + n ≤ esz)) (some (k < n')) (.ag ((List.range n).map fun j => AV.mk false (g k (off + j)))) []
          | false => .val (decide (esz = esz') && decide (off + n ≤ esz) && decide (n = 1)) (some (k < n')) (AV.mk false (g k off)) []
        | .f => match agg with
          | true => .val (decide (esz = esz') && decide (off + n ≤ esz)) (some (k < n')) (.ag ((List.range n).map fun j => AV.mk true (g k (off + j)))) []
          | false => .val (decide (esz = esz') && decide (off + n ≤ esz) && decide (n = 1)) (some (k < n')) (AV.mk true (g k off)) []
      | _ => .fail
    | _ => .fail
  | .store n _ _ => match vs with
    | [.adr i off, y] => match ob i with
      | some (.box cs) => .val (decide (y.cells.length = n ∧ off + n ≤ cs.length) && y.cells.all (fun c => c.one ob)) none (.p true (.v undef)) [(i, some (.box (cs.take off ++ y.cells ++ cs.drop (off + n))))]
      | _ => .fail
    | [.elt i esz k off, y] => match ob i with
      | some (.row m nn esz' n' g hl) => match pcl ob (posn k off y.cells) with
        | some (m', xs, mv) =>
          .val (decide (esz = esz' ∧ y.cells.length = n ∧ off + n ≤ esz) && nodupB (mv.map Prod.fst) && !(mv.map Prod.fst).contains i && (match m.min m' with | .u => true | _ => hl.isEmpty))
            (andP ((k < n') :: (hl.filter fun x => decide (off ≤ x.2.1) && decide (x.2.1 < off + n)).map fun x => (k = x.1))) (.p true (.v undef))
            (delU (mv.map Prod.fst) ++ [(i, some (.row (m.min m') nn esz n' (setG xs g) (hl.filter fun x => !(decide (off ≤ x.2.1) && decide (x.2.1 < off + n)))))])
        | none => .fail
      | _ => .fail
    | _ => .fail
  | .fadr off _ => match vs with
    | [.p fr (.pp m h)] => .val true none (.p fr (.pp (m - off) (fun j => h (off + j)))) []
    | [.adr i o] => .val true none (.adr i (o + off)) []
    | [.elt i esz k o] => .val true none (.elt i esz k (o + off)) []
    | _ => .fail
  | .fval agg off n _ => match vs with
    | [.ag cs] => match agg with
      | true => .val (decide (off + n ≤ cs.length)) none (.ag ((cs.drop off).take n)) []
      | false => .val (decide (off + n ≤ cs.length) && decide (n = 1)) none (cs.getD off default) []
    | _ => .fail
  | .idx esz _ _ => match vs with
    | [x, .p _ (.v (.int _ n))] => match x with
      | .p fr (.sl _ esz' m g) => .val (decide (esz = esz')) (some (0 ≤ n ∧ n.toNat < m)) (.p fr (.pp esz (g n.toNat))) []
      | .own j => match ob j with
        | some (.row _ _ esz' m _ _) => .val (decide (esz = esz')) (some (0 ≤ n ∧ n.toNat < m)) (.elt j esz n.toNat 0) []
        | _ => .fail
      | _ => .fail
    | _ => .fail
  | .idxS _ _ => match vs with
    | [.p _ (.v (.string b)), .p _ (.v (.int _ n))] => .val true (some (0 ≤ n ∧ n.toNat < b.size)) (.p true (.v (.int .u8 (b.data.toList.getD n.toNat 0).toNat))) []
    | _ => .fail
  | .len _ => match vs with
    | [.p _ (.sl _ _ n _)] => .val true none (.p true (.v (.int .i64 n))) []
    | [.p _ (.v (.slice _ n _))] => .val true none (.p true (.v (.int .i64 n))) []
    | [.own j] => match ob j with
      | some (.row _ _ _ n _ _) => .val true none (.p true (.v (.int .i64 n))) []
      | _ => .fail
    | _ => .fail
  | .lenS _ => match vs with
    | [.p _ (.v (.string b))] => .val true none (.p true (.v (.int .i64 b.size))) []
    | _ => .fail
  | .ext _ i => match vs with
    | [.tp cs] => match cs[i]? with
      | some c => .val true none c []
      | none => .fail
    | _ => .fail
  | .mkFn f a _ => .val (decide (a.length ≤ vs.length)) none (.cl f (vs.take a.length) (vs.drop a.length)) []
  | .mkSlc esz bytes zero _ _ => match vs with
    | [.p _ (.v (.int _ l)), .p _ (.v (.int _ c))] => .val (decide (0 < esz ∧ zero.length = esz)) (some (0 ≤ l ∧ l ≤ c ∧ (bytes : Int) * c ≤ 281474976710656 ∧ c ≤ 9223372036854775807)) (.own d)
        [(d, some (.row .u true esz l.toNat (fun _ j => .v (zero.getD j undef)) []))]
    | _ => .fail
  | .slc esz _ lo hi => match vs with
    | x :: r => match x with
      | .own j => match ob j with
        | some (.row m nn e n g hl) => match bnds lo.isSome hi.isSome n r with
          | some (l, h) => .val (decide (e = esz) && !lo.isSome && hl.isEmpty && j != d) (some (0 ≤ h ∧ h ≤ n)) (.own d) [(j, none), (d, some (.row m nn e h.toNat g []))]
          | none => .fail
        | _ => .fail
      | .p fr (.sl nn e n g) => match bnds lo.isSome hi.isSome n r with
        | some (l, h) => .val (decide (e = esz)) (some (0 ≤ l ∧ l ≤ h ∧ h ≤ n)) (.p fr (.sl nn esz (h - l).toNat fun i j => g (i + l.toNat) j)) []
        | none => .fail
      | .p _ (.v (.slice none 0 0)) => match bnds lo.isSome hi.isSome 0 r with
        | some (l, h) => .val true (some (l = 0 ∧ h = 0)) (.p true (.v (.slice none 0 0))) []
        | none => .fail
      | _ => .fail
    | [] => .fail
  | .slcS _ lo hi => match vs with
    | .p _ (.v (.string b)) :: r => match bnds lo.isSome hi.isSome b.size r with
      | some (l, h) => .val true (some (0 ≤ l ∧ l ≤ h ∧ h ≤ b.size)) (.p true (.v (.string (b.extract l.toNat h.toNat)))) []
      | none => .fail
    | _ => .fail
  | .slc0 esz _ => match vs with
    | [.p _ (.v (.slice none 0 0))] => .val true none (.p true (.v (.slice none 0 0))) []
    | [.p _ (.sl nn _ _ _)] => .val true none (.own d) [(d, some (.row .u nn esz 0 (fun _ _ => .any) []))]
    | [.own j] => match ob j with
      | some (.row _ nn _ _ _ _) => .val true none (.own d) [(d, some (.row .u nn esz 0 (fun _ _ => .any) []))]
      | _ => .fail
    | _ => .fail
  | .isNil neq _ => match vs with
    | [.p _ (.v (.slice none 0 0))] => .val true none (.p true (.v (.bool (!neq)))) []
    | [.p _ (.sl nn _ n _)] => match nn with
      | true => .val true none (.p true (.v (.bool neq))) []
      | false => .either (n = 0) (.p true (.v (.bool (!neq)))) (.p true (.v (.bool neq)))
    | [.own j] => match ob j with
      | some (.row _ nn _ n _ _) => match nn with
        | true => .val true none (.p true (.v (.bool neq))) []
        | false => .either (n = 0) (.p true (.v (.bool (!neq)))) (.p true (.v (.bool neq)))
      | _ => .fail
    | _ => .fail
  | .app esz bytes scal _ _ => match vs with
    | [s, x] => match srcOf ob esz scal x with
      | some (n', g', m', dead, p) => match s with
        | .p _ (.v (.slice none 0 0)) => .val (decide (0 < esz) && !dead.contains d) (andP ((n' * bytes ≤ 140737488355328 ∧ (n' : Int) ≤ 9223372036854775807) :: p.toList)) (.own d)
            (delU dead ++ [(d, some (.row m' false esz n' g' []))])
        | .own j => match ob j with
          | some (.row m nn e n g hl) => .val (decide (0 < esz ∧ e = esz) && !dead.contains d && !dead.contains j && j != d && (match m.min m' with | .u => true | _ => hl.isEmpty))
              (andP (((n + n') * bytes ≤ 140737488355328 ∧ ((n + n' : Nat) : Int) ≤ 9223372036854775807) :: (p.toList ++ hl.map fun x => x.1 < n))) (.own d)
              (delU dead ++ [(j, none), (d, some (.row (m.min m') nn esz (n + n') (fun a b => if a < n then g a b else g' (a - n) b) hl))])
          | _ => .fail
        | _ => .fail
      | none => .fail
    | _ => .fail
  | .conv k _ => match vs with
    | [.p _ (.v (.int _ n))] => .val true none (.p true (.v (.int k (k.wrap n)))) []
    | _ => .fail
  | .nilck _ => match vs with
    | [.adr i o] => .val true none (.adr i o) []
    | [.elt i e k o] => .val true none (.elt i e k o) []
    | [.p fr (.pp m h)] => .val true none (.p fr (.pp m h)) []
    | _ => .fail
  | .mm mx _ _ => match vs with
    | [.p _ (.v (.int k a)), .p _ (.v (.int k' b))] => .val true none (.p true (.v (.int k (if mx then (if b > a then b else a) else if b < a then b else a)))) []
    | _ => .fail
  | .b2s _ => match vs with
    | [.p _ (.sl _ e n g)] => .val (decide (e = 1)) (some (∀ i, i < n → ∃ m : Int, g i 0 = .v (.int .u8 m))) (.p true (.v (.string (bytesOf n g)))) []
    | [.own j] => match ob j with
      | some (.row _ _ e n g hl) => .val (decide (e = 1) && hl.isEmpty) (some (∀ i, i < n → ∃ m : Int, g i 0 = .v (.int .u8 m))) (.p true (.v (.string (bytesOf n g)))) []
      | _ => .fail
    | _ => .fail
  | .mkM => .val true none (.own d) [(d, some (.map (fun _ => none) 0))]
  | .lookM zero _ _ => match vs with
    | [.own j, .p _ (.v (.int .i64 k))] => match ob j with
      | some (.map f _) => .val true none (.p true (.v ((f k).getD zero))) []
      | _ => .fail
    | _ => .fail
  | .updM _ _ _ => match vs with
    | [.own j, .p _ (.v (.int .i64 k)), .p _ (.v x)] => match ob j with
      | some (.map f n) => .val true none (.p true (.v undef)) [(j, some (.map (fun i => if i = k then some x else f i) (match f k with | some _ => n | none => n + 1)))]
      | _ => .fail
    | _ => .fail
  | .lenM _ => match vs with
    | [.own j] => match ob j with
      | some (.map _ n) => .val true none (.p true (.v (.int .i64 n))) []
      | _ => .fail
    | _ => .fail
  | .eqA _ _ _ => .fail
  | .bad _ => .fail
  | .call f _ => .call f vs
  | .callv _ _ => match vs with
    | .cl f a b :: args => .call f (a ++ args ++ b)
    | .p fr (.cl f a b) :: args => .call f (a.map (AV.p fr) ++ args ++ b.map (AV.p fr))
    | _ => .fail
end Go.Gw
