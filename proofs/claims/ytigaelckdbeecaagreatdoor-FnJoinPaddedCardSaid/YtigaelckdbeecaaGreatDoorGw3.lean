/- Operations with their types resolved, and what they do to abstract states, as data; with no condition. -/
import Derived.Test.YtigaelckdbeecaaGreatDoorGw1
namespace Go.Gw
open Go
set_option linter.unusedVariables false
set_option linter.unusedSimpArgs false
inductive IOp where
  | mov (x : Operand)
  | pick (c a b : Operand)
  | bin (op : BinOp) (x y : Operand)
  | binB (op : BinOp) (x y : Operand)
  | un (op : UnOp) (x : Operand)
  | box (n : Nat) (x : Operand)
  | alloc (zero : List Value)
  | build (zero : List Value) (ps : List (Nat × Nat × Operand))
  | mkSl (esz len : Nat) (zero : List Value) (ps : List (Nat × Operand))
  | load (agg : Bool) (n : Nat) (x : Operand)
  | store (n : Nat) (x y : Operand)
  | fadr (off : Nat) (x : Operand)
  | fval (agg : Bool) (off n : Nat) (x : Operand)
  | idx (esz : Nat) (x i : Operand)
  | idxS (x i : Operand)
  | len (x : Operand)
  | lenS (x : Operand)
  | ext (x : Operand) (i : Nat)
  | mkFn (f : FuncId) (first caps : List Operand)
  | mkSlc (esz bytes : Nat) (zero : List Value) (len cap : Operand)
  | slc (esz : Nat) (x : Operand) (lo hi : Option Operand)
  | slcS (x : Operand) (lo hi : Option Operand)
  | slc0 (esz : Nat) (x : Operand)
  | isNil (neq : Bool) (x : Operand)
  | app (esz bytes : Nat) (scal : Bool) (s x : Operand)
  | conv (k : IntKind) (x : Operand)
  | nilck (x : Operand)
  | mm (mx : Bool) (x y : Operand)
  | b2s (x : Operand)
  | eqA (neq : Bool) (ks : List Bool) (x y : Operand)
  | mkM
  | lookM (zero : Value) (x i : Operand)
  | updM (x i v : Operand)
  | lenM (x : Operand)
  | bad (l : List Operand)
  | call (f : FuncId) (args : List Operand)
  | callv (x : Operand) (args : List Operand)
def IOp.opds : IOp → List Operand
  | .mov x => [x]
  | .pick c a b => [c, a, b]
  | .bin _ x y => [x, y]
  | .binB _ x y => [x, y]
  | .un _ x => [x]
  | .box _ x => [x]
  | .alloc _ => []
  | .build _ ps => ps.map fun p => p.2.2
  | .mkSl _ _ _ ps => ps.map fun p => p.2
  | .load _ _ x => [x]
  | .store _ x y => [x, y]
  | .fadr _ x => [x]
  | .fval _ _ _ x => [x]
  | .idx _ x i => [x, i]
  | .idxS x i => [x, i]
  | .len x => [x]
  | .lenS x => [x]
  | .ext x _ => [x]
  | .mkFn _ a b => a ++ b
  | .mkSlc _ _ _ a b => [a, b]
  | .slc _ x lo hi => x :: (lo.toList ++ hi.toList)
  | .slcS x lo hi => x :: (lo.toList ++ hi.toList)
  | .slc0 _ x => [x]
  | .isNil _ x => [x]
  | .app _ _ _ a b => [a, b]
  | .conv _ x => [x]
  | .nilck x => [x]
  | .mm _ x y => [x, y]
  | .b2s x => [x]
  | .eqA _ _ x y => [x, y]
  | .mkM => []
  | .lookM _ x i => [x, i]
  | .updM x i v => [x, i, v]
  | .lenM x => [x]
  | .bad l => l
  | .call _ args => args
  | .callv x args => x :: args
def nm (d j : Nat) : Nat := 1000 * (j + 1) + d
def IOp.fresh (d : Nat) : IOp → List Nat
  | .box _ _ => [d]
  | .alloc _ => [d]
  | .mkSl _ _ _ _ => [d]
  | .mkSlc _ _ _ _ _ => [d]
  | .app _ _ _ _ _ => [d]
  | .slc _ _ _ _ => [d]
  | .slc0 _ _ => [d]
  | .mkM => [d]
  | .load _ n _ => (List.range n).map (nm d)
  | .call _ _ => (List.range 8).map (nm d)
  | .callv _ _ => (List.range 8).map (nm d)
  | _ => []
def opt : Option Prop → Prop
  | none => True
  | some p => p
def opd (G : List (Nat × PV)) (s : St) : Operand → AV
  | .tmp t => s.get t
  | .const x => match x with
    | .agg xs => .ag (xs.toList.map fun v => .p true (.v v))
    | x => .p true (.v x)
  | .global g => match look G g with | some c => .p false c | none => .p false .any
  | .func f => .cl f [] []
def AV.mk (fr : Bool) : PV → AV
  | .v x => .p true (.v x)
  | c => .p fr c
mutual
def AV.fresh : AV → Bool
  | .p true _ => true
  | .p false (.v _) => true
  | .p false .any => true
  | .p false _ => false
  | .own _ => true
  | .adr _ _ => true
  | .elt _ _ _ _ => true
  | .vw _ _ _ => true
  | .ag cs => AV.freshs cs
  | .tp cs => AV.freshs cs
  | .cl _ a b => AV.freshs a && AV.freshs b
def AV.freshs : List AV → Bool
  | [] => true
  | c :: cs => AV.fresh c && AV.freshs cs
end
def Ob.fresh : Ob → Bool
  | .box cs => AV.freshs cs
  | .row m _ _ _ _ _ => m != .z
  | .map _ _ => true
mutual
def AV.ids : AV → List Nat
  | .p _ _ => []
  | .own i => [i]
  | .adr i _ => [i]
  | .elt i _ _ _ => [i]
  | .vw i _ _ => [i]
  | .ag cs => AV.idss cs
  | .tp cs => AV.idss cs
  | .cl _ a b => AV.idss a ++ AV.idss b
def AV.idss : List AV → List Nat
  | [] => []
  | c :: cs => AV.ids c ++ AV.idss cs
end
def AV.cells : AV → List AV
  | .ag cs => cs
  | c => [c]
def PV.one : PV → Bool
  | .v (.agg _) => false
  | .v (.tuple _) => false
  | .any => false
  | .nm _ c => c.one
  | _ => true
def AV.one (ob : Nat → Option Ob) : AV → Bool
  | .p _ c => c.one
  | .own i => (ob i).isSome
  | .adr _ _ => true
  | .elt _ _ _ _ => true
  | .vw _ _ _ => false
  | .cl _ _ _ => true
  | .ag _ => false
  | .tp _ => false
def fillA : List AV → List (Nat × Nat × AV) → Option (List AV)
  | cells, [] => some cells
  | cells, (off, n, c) :: r =>
    if c.cells.length = n ∧ off + n ≤ cells.length then fillA (cells.take off ++ c.cells ++ cells.drop (off + n)) r else none
def Mode.min : Mode → Mode → Mode
  | .u, m => m
  | m, .u => m
  | .f, .f => .f
  | _, _ => .z
def AV.pc (ob : Nat → Option Ob) : AV → Option (Mode × PV × List Nat)
  | .p fr c => match c.one with
    | true => some (match c with | .v _ => .u | _ => if fr then .f else .z, c, [])
    | false => none
  | .own j => match ob j with
    | some (.row m nn e n g []) => some (m, .sl nn e n g, [j])
    | _ => none
  | _ => none
def posn (k off : Nat) : List AV → List (Nat × Nat × AV)
  | [] => []
  | c :: cs => (k, off, c) :: posn k (off + 1) cs
def pcl (ob : Nat → Option Ob) : List (Nat × Nat × AV) → Option (Mode × List (Nat × Nat × PV) × List (Nat × (Nat × Nat)))
  | [] => some (.u, [], [])
  | (k, j, c) :: r => match c.pc ob, pcl ob r with
    | some (m, x, dd), some (m', xs, mv) => some (m.min m', (k, j, x) :: xs, dd.map (fun i => (i, (k, j))) ++ mv)
    | _, _ => none
def setG : List (Nat × Nat × PV) → (Nat → Nat → PV) → Nat → Nat → PV
  | [], g => g
  | (k, j, x) :: r, g => setG r (cellSet g k j x)
def ordI : Nat → List (Nat × Nat × PV) → Option (List Int)
  | _, [] => some []
  | i, (k, j, x) :: r => match x with
    | .v (.int .i64 n) => match Nat.beq k i && Nat.beq j 0 with
      | true => (ordI (i + 1) r).map (n :: ·)
      | false => none
    | _ => none
def litI (l : List Int) (i : Nat) : Int := l.getD i 0
def ordS : Nat → List (Nat × Nat × PV) → Option (List ByteArray)
  | _, [] => some []
  | i, (k, j, x) :: r => match x with
    | .v (.string n) => match Nat.beq k i && Nat.beq j 0 with
      | true => (ordS (i + 1) r).map (n :: ·)
      | false => none
    | _ => none
def litS (l : List ByteArray) (i : Nat) : ByteArray := l.getD i ByteArray.empty
def mkG (esz len : Nat) (xs : List (Nat × Nat × PV)) (zero : List Value) : Nat → Nat → PV := match Nat.blt 1 len && Nat.beq esz 1 with
  | true => match ordI 0 xs with
    | some l => match Nat.beq l.length len with
      | true => fun i _ => .v (.int .i64 (litI l i))
      | false => setG xs fun _ j => .v (zero.getD j undef)
    | none => match ordS 0 xs with
      | some l => match Nat.beq l.length len with
        | true => fun i _ => .v (.string (litS l i))
        | false => setG xs fun _ j => .v (zero.getD j undef)
      | none => setG xs fun _ j => .v (zero.getD j undef)
  | false => setG xs fun _ j => .v (zero.getD j undef)
def nodupB : List Nat → Bool
  | [] => true
  | x :: l => !l.contains x && nodupB l
def delU (l : List Nat) : Upd := l.map fun j => (j, none)
def asI : AV → Option Int
  | .p _ (.v (.int _ a)) => some a
  | _ => none
def bnds : Bool → Bool → Nat → List AV → Option (Int × Int)
  | true, true, _, [x, y] => match asI x, asI y with
    | some a, some b => some (a, b)
    | _, _ => none
  | true, false, n, [x] => match asI x with
    | some a => some (a, n)
    | none => none
  | false, true, _, [y] => match asI y with
    | some b => some (0, b)
    | none => none
  | false, false, n, [] => some (0, n)
  | _, _, _, _ => none
def byteOf : PV → UInt8
  | .v (.int _ m) => UInt8.ofNat m.toNat
  | _ => 0
def bytesOf (n : Nat) (g : Nat → Nat → PV) : ByteArray := ⟨((List.range n).map fun i => byteOf (g i 0)).toArray⟩
def PV.isV : PV → Bool
  | .v x => PV.one (.v x)
  | _ => false
def allV (esz n : Nat) (g : Nat → Nat → PV) : Prop := ∀ i j, i < n → j < esz → (g i j).isV = true
def allOne (esz n : Nat) (g : Nat → Nat → PV) : Prop := ∀ i j, i < n → j < esz → (g i j).one = true
def srcOf (ob : Nat → Option Ob) (esz : Nat) (scal : Bool) : AV → Option (Nat × (Nat → Nat → PV) × Mode × List Nat × Option Prop)
  | .p fr (.sl _ e n g) => match e == esz with
    | true => some (n, g, match scal with | true => .u | false => if fr then .f else .z, [], match scal with | true => some (allV esz n g) | false => some (allOne esz n g))
    | false => none
  | .p _ (.v (.slice none 0 0)) => some (0, fun _ _ => .any, .u, [], none)
  | .own j => match ob j with
    | some (.row m _ e n g []) => match e == esz with
      | true => match scal with
        | true => some (n, g, .u, [], some (allV esz n g))
        | false => some (n, g, m, [j], some (allOne esz n g))
      | false => none
    | _ => none
  | _ => none
def extr (g : Nat → Nat → PV) (k : Nat) (hl : List (Nat × Nat × Nat)) (d : Nat) : List (Nat × Nat) → Option (List AV × List Prop × List (Nat × Nat × Nat) × List (Nat × Ob))
  | [] => some ([], [], [], [])
  | (i, j) :: r => match extr g k hl d r with
    | none => none
    | some (cs, ps, hs, os) => match hl.filter fun x => x.2.1 == j with
      | (k', _, e) :: _ => some (.own e :: cs, (k = k') :: ps, hs, os)
      | [] => match g k j with
        | .v x => some (.p true (.v x) :: cs, ps, hs, os)
        | .sl nn e n g' => some (.own (nm d i) :: cs, ps, (k, j, nm d i) :: hs, (nm d i, .row .u nn e n g' []) :: os)
        | _ => none
def andP : List Prop → Option Prop
  | [] => none
  | [p] => some p
  | p :: l => match andP l with
    | some q => some (p ∧ q)
    | none => some p
def colsFrom (off : Nat) : Nat → Nat → List (Nat × Nat)
  | _, 0 => []
  | i, n + 1 => (i, off + i) :: colsFrom off (i + 1) n
def extU (i : Nat) (o : Ob) (os : List (Nat × Ob)) : List (Nat × Nat × Nat) → Upd
  | [] => []
  | _ :: _ => (i, some o) :: os.map fun x => (x.1, some x.2)
inductive Cnd where
  | fail
  | val (b : Bool) (p : Option Prop) (c : AV) (u : Upd)
  | ite (b : Bool) (c d : AV)
  | either (p : Prop) (c d : AV)
  | call (f : FuncId) (args : List AV)
def binR (op : BinOp) (k : IntKind) (a : Int) (k' : IntKind) (b : Int) : Cnd :=
  match op with
  | .shl => .val true (some (0 ≤ b)) (.p true (.v (.int k (k.wrap (a * 2 ^ min b.toNat k.bits))))) []
  | .shr => .val true (some (0 ≤ b)) (.p true (.v (.int k (a.fdiv (2 ^ min b.toNat k.bits))))) []
  | .add => .val (decide (k = k')) none (.p true (.v (.int k (k.wrap (a + b))))) []
  | .sub => .val (decide (k = k')) none (.p true (.v (.int k (k.wrap (a - b))))) []
  | .mul => .val (decide (k = k')) none (.p true (.v (.int k (k.wrap (a * b))))) []
  | .quo => .val (decide (k = k')) (some (b ≠ 0)) (.p true (.v (.int k (k.wrap (a.tdiv b))))) []
  | .rem => .val (decide (k = k')) (some (b ≠ 0)) (.p true (.v (.int k (a.tmod b)))) []
  | .and => .val (decide (k = k')) none (.p true (.v (.int k (k.wrap (BitVec.ofInt k.bits a &&& BitVec.ofInt k.bits b).toNat)))) []
  | .or => .val (decide (k = k')) none (.p true (.v (.int k (k.wrap (BitVec.ofInt k.bits a ||| BitVec.ofInt k.bits b).toNat)))) []
  | .xor => .val (decide (k = k')) none (.p true (.v (.int k (k.wrap (BitVec.ofInt k.bits a ^^^ BitVec.ofInt k.bits b).toNat)))) []
  | .andNot => .val (decide (k = k')) none (.p true (.v (.int k (k.wrap (BitVec.ofInt k.bits a &&& ~~~ BitVec.ofInt k.bits b).toNat)))) []
  | .eql => .val (decide (k = k')) none (.p true (.v (.bool (a == b)))) []
  | .neq => .val (decide (k = k')) none (.p true (.v (.bool (a != b)))) []
  | .lss => .val (decide (k = k')) none (.p true (.v (.bool (decide (a < b))))) []
  | .leq => .val (decide (k = k')) none (.p true (.v (.bool (decide (a ≤ b))))) []
  | .gtr => .val (decide (k = k')) none (.p true (.v (.bool (decide (b < a))))) []
  | .geq => .val (decide (k = k')) none (.p true (.v (.bool (decide (b ≤ a))))) []
def strR (op : BinOp) (x y : ByteArray) : Cnd :=
  match op with
  | .add => .val true (some (((x.size + y.size : Nat) : Int) ≤ IntKind.i64.max)) (.p true (.v (.string (x ++ y)))) []
  | .eql => .val true none (.p true (.v (.bool (x.toList == y.toList)))) []
  | .neq => .val true none (.p true (.v (.bool !(x.toList == y.toList)))) []
  | .lss => .val true none (.p true (.v (.bool (Op.bytesLess x.toList y.toList)))) []
  | .leq => .val true none (.p true (.v (.bool (Op.bytesLess x.toList y.toList || x.toList == y.toList)))) []
  | .gtr => .val true none (.p true (.v (.bool !(Op.bytesLess x.toList y.toList || x.toList == y.toList)))) []
  | .geq => .val true none (.p true (.v (.bool !(Op.bytesLess x.toList y.toList)))) []
  | _ => .fail
def boolV : Value → Bool
  | .bool b => b
  | _ => false
def intV : Value → Int
  | .int _ n => n
  | _ => 0
def eqCells : List Bool → List AV → List AV → Option Bool
  | [], [], [] => some true
  | true :: ks, .p _ (.v (.int k a)) :: cs, .p _ (.v (.int k' b)) :: ds => match decide (k = k') with
    | true => match eqCells ks cs ds with
      | some r => some ((a == b) && r)
      | none => none
    | false => none
  | false :: ks, .p _ (.v (.bool a)) :: cs, .p _ (.v (.bool b)) :: ds => match eqCells ks cs ds with
    | some r => some ((a == b) && r)
    | none => none
  | _, _, _ => none
def res (ob : Nat → Option Ob) (d : Nat) (vs : List AV) : IOp → Cnd
  | .mov _ => match vs with
    | [c] => .val true none c []
    | _ => .fail
  | .pick _ _ _ => match vs with
    | [.p _ (.v (.bool t)), a, b] => .ite t a b
    | _ => .fail
  | .bin op _ _ => match vs with
    | [.p _ (.v (.int k a)), .p _ (.v (.int k' b))] => binR op k a k' b
    | [.p _ (.v (.string a)), .p _ (.v (.string b))] => strR op a b
    | _ => .fail
  | .binB op _ _ => match vs with
    | [.p _ (.v (.bool a)), .p _ (.v (.bool b))] => match op with
      | .eql => .val true none (.p true (.v (.bool (a == b)))) []
      | .neq => .val true none (.p true (.v (.bool (!(a == b))))) []
      | _ => .fail
    | _ => .fail
  | .un op _ => match vs with
    | [.p _ (.v (.bool a))] => match op with
      | .not => .val true none (.p true (.v (.bool !a))) []
      | _ => .fail
    | [.p _ (.v (.int k a))] => match op with
      | .neg => .val true none (.p true (.v (.int k (k.wrap (0 - a))))) []
      | _ => .fail
    | _ => .fail
  | .box n _ => match vs with
    | [x] => .val (decide (x.cells.length = n) && (x.cells.all fun c => c.one ob)) none (.adr d 0) [(d, some (.box x.cells))]
    | _ => .fail
  | .alloc zero => .val true none (.adr d 0) [(d, some (.box (zero.map fun v => .p true (.v v))))]
  | .build zero ps => match fillA (zero.map fun v => .p true (.v v)) ((ps.zip vs).map fun x => (x.1.1, x.1.2.1, x.2)) with
    | some cs => .val (decide (ps.length = vs.length) && vs.all fun v => v.cells.all fun c => c.one ob) none (.ag cs) []
    | none => .fail
  | .mkSl esz len zero ps => match pcl ob (((ps.map Prod.fst).zip vs).flatMap fun x => posn x.1 0 x.2.cells) with
    | some (m, xs, mv) => .val (decide (0 < esz ∧ len * esz ≤ 2 ^ 24 ∧ zero.length = esz ∧ ps.length = vs.length) && vs.all (fun v => decide (v.cells.length = esz)) && ps.all (fun p => decide (p.1 < len)) && nodupB (mv.map Prod.fst) && !(mv.map Prod.fst).contains d) none (.own d)
        (delU (mv.map Prod.fst) ++ [(d, some (.row m true esz len (mkG esz len xs zero) []))])
    | none => .fail
  | .load agg n _ => match vs with
    | [.p fr (.pp m h)] => match agg with
      | true => .val (decide (n ≤ m)) none (.ag ((List.range n).map fun j => AV.mk fr (h j))) []
      | false => .val (decide (n ≤ m) && decide (n = 1)) none (AV.mk fr (h 0)) []
    | [.adr i off] => match ob i with
      | some (.box cs) => match agg with
        | true => .val (decide (off + n ≤ cs.length)) none (.ag ((cs.drop off).take n)) []
        | false => .val (decide (off + n ≤ cs.length) && decide (n = 1)) none (cs.getD off default) []
      | _ => .fail
    | [.elt i esz k off] => match ob i with
      | some (.row m nn esz' n' g hl) => match m with
        | .u => match extr g k hl d (colsFrom off 0 n) with
          | some (cs, ps, hs, os) => match (if agg then some (AV.ag cs) else cs.head?) with
            | some c => .val (decide (esz = esz') && decide (off + n ≤ esz) && (agg || decide (n = 1))) (andP ((k < n') :: ps)) c
                (extU i (.row .u nn esz n' g (hs ++ hl)) os hs)
            | none => .fail
          | none => .fail
        | .z => match agg with
          | true => .val (decide (esz = esz') && decide (off + n ≤ esz)) (some (k < n')) (.ag ((List.range n).map fun j => AV.mk false (g k (off + j)))) []
          | false => .val (decide (esz = esz') && decide (off + n ≤ esz) && decide (n = 1)) (some (k < n')) (AV.mk false (g k off)) []
        | .f => match agg with
          | true => .val (decide (esz = esz') && decide (off + n ≤ esz)) (some (k < n')) (.ag ((List.range n).map fun j => AV.mk true (g k (off + j)))) []
          | false => .val (decide (esz = esz') && decide (off + n ≤ esz) && decide (n = 1)) (some (k < n')) (AV.mk true (g k off)) []
      | _ => .fail
    | _ => .fail
  | .store n _ _ => match vs with
    | [.adr i off, y] => match ob i with
      | some (.box cs) => .val (decide (y.cells.length = n ∧ off + n ≤ cs.length) && y.cells.all (fun c => c.one ob)) none (.p true (.v undef)) [(i, some (.box (cs.take off ++ y.cells ++ cs.drop (off + n))))]
      | _ => .fail
    | [.elt i esz k off, y] => match ob i with
      | some (.row m nn esz' n' g hl) => match pcl ob (posn k off y.cells) with
        | some (m', xs, mv) =>
          .val (decide (esz = esz' ∧ y.cells.length = n ∧ off + n ≤ esz) && nodupB (mv.map Prod.fst) && !(mv.map Prod.fst).contains i && (match m.min m' with | .u => true | _ => hl.isEmpty))
            (andP ((k < n') :: (hl.filter fun x => decide (off ≤ x.2.1) && decide (x.2.1 < off + n)).map fun x => (k = x.1))) (.p true (.v undef))
            (delU (mv.map Prod.fst) ++ [(i, some (.row (m.min m') nn esz n' (setG xs g) (hl.filter fun x => !(decide (off ≤ x.2.1) && decide (x.2.1 < off + n)))))])
        | none => .fail
      | _ => .fail
    | _ => .fail
  | .fadr off _ => match vs with
    | [.p fr (.pp m h)] => .val true none (.p fr (.pp (m - off) (fun j => h (off + j)))) []
    | [.adr i o] => .val true none (.adr i (o + off)) []
    | [.elt i esz k o] => .val true none (.elt i esz k (o + off)) []
    | _ => .fail
  | .fval agg off n _ => match vs with
    | [.ag cs] => match agg with
      | true => .val (decide (off + n ≤ cs.length)) none (.ag ((cs.drop off).take n)) []
      | false => .val (decide (off + n ≤ cs.length) && decide (n = 1)) none (cs.getD off default) []
    | _ => .fail
  | .idx esz _ _ => match vs with
    | [x, .p _ (.v (.int _ n))] => match x with
      | .p fr (.sl _ esz' m g) => .val (decide (esz = esz')) (some (0 ≤ n ∧ n.toNat < m)) (.p fr (.pp esz (g n.toNat))) []
      | .own j => match ob j with
        | some (.row _ _ esz' m _ _) => .val (decide (esz = esz')) (some (0 ≤ n ∧ n.toNat < m)) (.elt j esz n.toNat 0) []
        | _ => .fail
      | _ => .fail
    | _ => .fail
  | .idxS _ _ => match vs with
    | [.p _ (.v (.string b)), .p _ (.v (.int _ n))] => .val true (some (0 ≤ n ∧ n.toNat < b.size)) (.p true (.v (.int .u8 (b.data.toList.getD n.toNat 0).toNat))) []
    | _ => .fail
  | .len _ => match vs with
    | [.p _ (.sl _ _ n _)] => .val true none (.p true (.v (.int .i64 n))) []
    | [.p _ (.v (.slice _ n _))] => .val true none (.p true (.v (.int .i64 n))) []
    | [.own j] => match ob j with
      | some (.row _ _ _ n _ _) => .val true none (.p true (.v (.int .i64 n))) []
      | _ => .fail
    | _ => .fail
  | .lenS _ => match vs with
    | [.p _ (.v (.string b))] => .val true none (.p true (.v (.int .i64 b.size))) []
    | _ => .fail
  | .ext _ i => match vs with
    | [.tp cs] => match cs[i]? with
      | some c => .val true none c []
      | none => .fail
    | _ => .fail
  | .mkFn f a _ => .val (decide (a.length ≤ vs.length)) none (.cl f (vs.take a.length) (vs.drop a.length)) []
  | .mkSlc esz bytes zero _ _ => match vs with
    | [.p _ (.v (.int _ l)), .p _ (.v (.int _ c))] => .val (decide (0 < esz ∧ zero.length = esz)) (some (0 ≤ l ∧ l ≤ c ∧ (bytes : Int) * c ≤ 281474976710656 ∧ c ≤ 9223372036854775807)) (.own d)
        [(d, some (.row .u true esz l.toNat (fun _ j => .v (zero.getD j undef)) []))]
    | _ => .fail
  | .slc esz _ lo hi => match vs with
    | x :: r => match x with
      | .own j => match ob j with
        | some (.row m nn e n g hl) => match bnds lo.isSome hi.isSome n r with
          | some (l, h) => match lo.isSome with
            | false => .val (decide (e = esz) && !lo.isSome && hl.isEmpty && j != d) (some (0 ≤ h ∧ h ≤ n)) (.own d) [(j, none), (d, some (.row m nn e h.toNat g []))]
            | true => .val (decide (e = esz) && !hi.isSome) (some (0 ≤ l ∧ l ≤ n)) (.vw j esz l.toNat) []
          | none => .fail
        | _ => .fail
      | .p fr (.sl nn e n g) => match bnds lo.isSome hi.isSome n r with
        | some (l, h) => .val (decide (e = esz)) (some (0 ≤ l ∧ l ≤ h ∧ h ≤ n)) (.p fr (.sl nn esz (h - l).toNat fun i j => g (i + l.toNat) j)) []
        | none => .fail
      | .p _ (.v (.slice none 0 0)) => match bnds lo.isSome hi.isSome 0 r with
        | some (l, h) => .val true (some (l = 0 ∧ h = 0)) (.p true (.v (.slice none 0 0))) []
        | none => .fail
      | _ => .fail
    | [] => .fail
  | .slcS _ lo hi => match vs with
    | .p _ (.v (.string b)) :: r => match bnds lo.isSome hi.isSome b.size r with
      | some (l, h) => .val true (some (0 ≤ l ∧ l ≤ h ∧ h ≤ b.size)) (.p true (.v (.string (b.extract l.toNat h.toNat)))) []
      | none => .fail
    | _ => .fail
  | .slc0 esz _ => match vs with
    | [.p _ (.v (.slice none 0 0))] => .val true none (.p true (.v (.slice none 0 0))) []
    | [.p _ (.sl nn _ _ _)] => .val true none (.own d) [(d, some (.row .u nn esz 0 (fun _ _ => .any) []))]
    | [.own j] => match ob j with
      | some (.row _ nn _ _ _ _) => .val true none (.own d) [(d, some (.row .u nn esz 0 (fun _ _ => .any) []))]
      | _ => .fail
    | _ => .fail
  | .isNil neq _ => match vs with
    | [.p _ (.v (.slice none 0 0))] => .val true none (.p true (.v (.bool (!neq)))) []
    | [.p _ (.sl nn _ n _)] => match nn with
      | true => .val true none (.p true (.v (.bool neq))) []
      | false => .either (n = 0) (.p true (.v (.bool (!neq)))) (.p true (.v (.bool neq)))
    | [.own j] => match ob j with
      | some (.row _ nn _ n _ _) => match nn with
        | true => .val true none (.p true (.v (.bool neq))) []
        | false => .either (n = 0) (.p true (.v (.bool (!neq)))) (.p true (.v (.bool neq)))
      | _ => .fail
    | _ => .fail
  | .app esz bytes scal _ _ => match vs with
    | [.own j, .vw j' esz' k] => match ob j with
      | some (.row .u nn e n g hl) => match ob j' with
        | some (.row .u nn' e' n' g' []) => .val (decide (0 < esz ∧ e = esz ∧ e' = esz ∧ esz' = esz) && !scal && j != d && j' != d && j != j')
            (andP (((n + (n' - k)) * bytes ≤ 140737488355328 ∧ ((n + (n' - k) : Nat) : Int) ≤ 9223372036854775807) :: (k ≤ n') :: (allOne esz (n' - k) (fun a b => g' (a + k) b)) :: hl.map fun x => x.1 < n)) (.own d)
            [(j', some (.row .u nn' esz n' (fun a b => if a < k then g' a b else .any) [])), (j, none), (d, some (.row .u nn esz (n + (n' - k)) (fun a b => if a < n then g a b else g' (a - n + k) b) hl))]
        | _ => .fail
      | _ => .fail
    | [s, x] => match srcOf ob esz scal x with
      | some (n', g', m', dead, p) => match s with
        | .p _ (.v (.slice none 0 0)) => .val (decide (0 < esz) && !dead.contains d) (andP ((n' * bytes ≤ 140737488355328 ∧ (n' : Int) ≤ 9223372036854775807) :: p.toList)) (.own d)
            (delU dead ++ [(d, some (.row m' false esz n' g' []))])
        | .own j => match ob j with
          | some (.row m nn e n g hl) => .val (decide (0 < esz ∧ e = esz) && !dead.contains d && !dead.contains j && j != d && (match m.min m' with | .u => true | _ => hl.isEmpty))
              (andP (((n + n') * bytes ≤ 140737488355328 ∧ ((n + n' : Nat) : Int) ≤ 9223372036854775807) :: (p.toList ++ hl.map fun x => x.1 < n))) (.own d)
              (delU dead ++ [(j, none), (d, some (.row (m.min m') nn esz (n + n') (fun a b => if a < n then g a b else g' (a - n) b) hl))])
          | _ => .fail
        | _ => .fail
      | none => .fail
    | _ => .fail
  | .conv k _ => match vs with
    | [.p _ (.v (.int _ n))] => .val true none (.p true (.v (.int k (k.wrap n)))) []
    | _ => .fail
  | .nilck _ => match vs with
    | [.adr i o] => .val true none (.adr i o) []
    | [.elt i e k o] => .val true none (.elt i e k o) []
    | [.p fr (.pp m h)] => .val true none (.p fr (.pp m h)) []
    | _ => .fail
  | .mm mx _ _ => match vs with
    | [.p _ (.v (.int k a)), .p _ (.v (.int k' b))] => .val true none (.p true (.v (.int k (if mx then (if b > a then b else a) else if b < a then b else a)))) []
    | _ => .fail
  | .b2s _ => match vs with
    | [.p _ (.sl _ e n g)] => .val (decide (e = 1)) (some (∀ i, i < n → ∃ m : Int, g i 0 = .v (.int .u8 m))) (.p true (.v (.string (bytesOf n g)))) []
    | [.own j] => match ob j with
      | some (.row _ _ e n g hl) => .val (decide (e = 1) && hl.isEmpty) (some (∀ i, i < n → ∃ m : Int, g i 0 = .v (.int .u8 m))) (.p true (.v (.string (bytesOf n g)))) []
      | _ => .fail
    | _ => .fail
  | .mkM => .val true none (.own d) [(d, some (.map (fun _ => none) 0))]
  | .lookM zero _ _ => match vs with
    | [.own j, .p _ (.v (.int .i64 k))] => match ob j with
      | some (.map f _) => match zero with
        | .bool b => .val true (some ((f k).getD (.bool b) = .bool (boolV ((f k).getD (.bool b))))) (.p true (.v (.bool (boolV ((f k).getD (.bool b)))))) []
        | .int q b => .val true (some ((f k).getD (.int q b) = .int q (intV ((f k).getD (.int q b))))) (.p true (.v (.int q (intV ((f k).getD (.int q b)))))) []
        | z => .val true none (.p true (.v ((f k).getD z))) []
      | _ => .fail
    | _ => .fail
  | .updM _ _ _ => match vs with
    | [.own j, .p _ (.v (.int .i64 k)), .p _ (.v x)] => match ob j with
      | some (.map f n) => .val true none (.p true (.v undef)) [(j, some (.map (fun i => if i = k then some x else f i) (match f k with | some _ => n | none => n + 1)))]
      | _ => .fail
    | _ => .fail
  | .lenM _ => match vs with
    | [.own j] => match ob j with
      | some (.map _ n) => .val true none (.p true (.v (.int .i64 n))) []
      | _ => .fail
    | _ => .fail
  | .eqA neq ks _ _ => match vs with
    | [.ag cs, .ag ds] => match eqCells ks cs ds with
      | some r => .val true none (.p true (.v (.bool (match neq with | true => !r | false => r)))) []
      | none => .fail
    | _ => .fail
  | .bad _ => .fail
  | .call f _ => .call f vs
  | .callv _ _ => match vs with
    | .cl f a b :: args => .call f (a ++ args ++ b)
    | .p fr (.cl f a b) :: args => .call f (a.map (AV.p fr) ++ args ++ b.map (AV.p fr))
    | _ => .fail
end Go.Gw
namespace Go.Gw
open Go
set_option linter.unusedVariables false
set_option linter.unusedSimpArgs false
def idxOf : List Nat → Nat → Option Nat
  | [], _ => none
  | p :: ps, i => if p = i then some 0 else (idxOf ps i).map (· + 1)
theorem idxOf_get : ∀ {ps : List Nat} {i k : Nat}, idxOf ps i = some k → ps[k]? = some i
  | [], i, k, h => by cases h
  | p :: ps, i, k, h => by
    simp only [idxOf] at h
    split at h
    · rename_i e; cases h; simp [e]
    · simp only [Option.map_eq_some_iff] at h
      obtain ⟨k', h', rfl⟩ := h
      simpa using idxOf_get h'
theorem idxOf_none : ∀ {ps : List Nat} {i : Nat}, idxOf ps i = none ↔ i ∉ ps
  | [], i => by simp [idxOf]
  | p :: ps, i => by
    simp only [idxOf]
    split
    · rename_i e; simp [e]
    · rename_i e
      simp only [Option.map_eq_none_iff, idxOf_none, List.mem_cons, not_or]
      exact ⟨fun h => ⟨fun h' => e h'.symm, h⟩, fun h => h.2⟩
theorem nodupB_cons {x : Nat} {l : List Nat} (h : nodupB (x :: l) = true) : x ∉ l ∧ nodupB l = true := by
  simpa [nodupB] using h
theorem idxOf_of_get : ∀ {ps : List Nat} {i k : Nat}, nodupB ps = true → ps[k]? = some i → idxOf ps i = some k
  | [], i, k, _, h => by simp at h
  | p :: ps, i, 0, hn, h => by simp at h; simp [idxOf, h]
  | p :: ps, i, k + 1, hn, h => by
    have hn := nodupB_cons hn
    simp only [List.getElem?_cons_succ] at h
    have hm : i ∈ ps := List.mem_of_getElem? h
    simp only [idxOf]
    have hne : ¬ p = i := fun e => hn.1 (by rw [e]; exact hm)
    rw [if_neg hne, idxOf_of_get hn.2 h]
    rfl
def mapO {α β : Type} (f : α → Option β) : List α → Option (List β)
  | [] => some []
  | x :: l => match f x, mapO f l with
    | some a, some b => some (a :: b)
    | _, _ => none
def pvwStep (ob : Nat → Option Ob) (ps : List Nat) (r : Option (AV → Option PV)) : AV → Option PV
  | .p _ c => some c
  | .own i => match ps.contains i with
    | true => none
    | false => match ob i with
      | some (.row _ nn e n g []) => some (.sl nn e n g)
      | _ => none
  | .adr i o => match r with
    | none => none
    | some r => match ps.contains i with
      | true => none
      | false => match ob i with
        | some (.box cs) => match mapO r cs with
          | some l => some (.pp (l.length - o) fun j => l.getD (o + j) .any)
          | none => none
        | _ => none
  | .cl g a b => match r with
    | none => none
    | some r => match mapO r a, mapO r b with
      | some x, some y => some (.cl g x y)
      | _, _ => none
  | _ => none
def AV.pvw (ob : Nat → Option Ob) (ps : List Nat) : Nat → AV → Option PV
  | 0 => pvwStep ob ps none
  | f + 1 => pvwStep ob ps (some (AV.pvw ob ps f))
def AV.pvws (ob : Nat → Option Ob) (ps : List Nat) (f : Nat) (cs : List AV) : Option (List PV) := mapO (AV.pvw ob ps f) cs
mutual
def AV.arg (ob : Nat → Option Ob) (ps : List Nat) : AV → Option AV
  | .p _ c => match c with
    | .v x => some (.p true (.v x))
    | c => some (.p false c)
  | .own i => match idxOf ps i with
    | some k => some (.own k)
    | none => (AV.pvw ob ps 4 (.own i)).map (.p false)
  | .adr i o => match idxOf ps i with
    | some k => some (.adr k o)
    | none => (AV.pvw ob ps 4 (.adr i o)).map (.p false)
  | .elt i e k o => match idxOf ps i with
    | some i' => some (.elt i' e k o)
    | none => none
  | .vw _ _ _ => none
  | .ag cs => (AV.args ob ps cs).map .ag
  | .tp cs => (AV.args ob ps cs).map .tp
  | .cl f a b => match AV.args ob ps a, AV.args ob ps b with
    | some x, some y => some (.cl f x y)
    | _, _ => none
def AV.args (ob : Nat → Option Ob) (ps : List Nat) : List AV → Option (List AV)
  | [] => some []
  | c :: cs => match AV.arg ob ps c, AV.args ob ps cs with
    | some x, some y => some (x :: y)
    | _, _ => none
end
def Ob.arg (ob : Nat → Option Ob) (ps : List Nat) : Ob → Option Ob
  | .box cs => (AV.args ob ps cs).map .box
  | .row m nn e n g hl => match hl with
    | [] => some (.row (match m with | .f => .z | m => m) nn e n g [])
    | _ => none
  | .map f n => some (.map f n)
def handed (ob : Nat → Option Ob) (ps : List Nat) : Nat → List Nat → Option (List (Nat × Ob))
  | _, [] => some []
  | k, i :: l => match ob i with
    | some o => match Ob.arg ob ps o, handed ob ps (k + 1) l with
      | some o', some H => some ((k, o') :: H)
      | _, _ => none
    | none => none
def lentB (ob : Nat → Option Ob) (ps : List Nat) (vs : List AV) : Bool :=
  (AV.idss vs).any (fun i => !ps.contains i) || ps.any fun i => match ob i with
    | some (.box cs) => (AV.idss cs).any fun i => !ps.contains i
    | _ => false
mutual
def AV.ren (σ : Nat → Nat) : AV → AV
  | .p fr c => .p fr c
  | .own i => .own (σ i)
  | .adr i o => .adr (σ i) o
  | .elt i e k o => .elt (σ i) e k o
  | .vw i e k => .vw (σ i) e k
  | .ag cs => .ag (AV.rens σ cs)
  | .tp cs => .tp (AV.rens σ cs)
  | .cl f a b => .cl f (AV.rens σ a) (AV.rens σ b)
def AV.rens (σ : Nat → Nat) : List AV → List AV
  | [] => []
  | c :: cs => AV.ren σ c :: AV.rens σ cs
end
def Ob.ren (σ : Nat → Nat) : Ob → Ob
  | .box cs => .box (AV.rens σ cs)
  | .row m nn e n g hl => .row m nn e n g []
  | .map f n => .map f n
def Ob.ids : Ob → List Nat
  | .box cs => AV.idss cs
  | .row _ _ _ _ _ hl => hl.map fun x => x.2.2
  | .map _ _ => []
def nameR (ps : List Nat) (d k : Nat) : Nat := match ps[k]? with
  | some i => i
  | none => nm d (k - ps.length)
def backNew (ps : List Nat) (d : Nat) : List (Nat × Ob) → Upd
  | [] => []
  | (k, o) :: r => match decide (k < ps.length) with
    | true => backNew ps d r
    | false => (nameR ps d k, some (o.ren (nameR ps d))) :: backNew ps d r
def backOld (ps : List Nat) (d : Nat) (H : List (Nat × Ob)) : Nat → List Nat → Upd
  | _, [] => []
  | k, i :: l => (i, match look H k with | some o => some (o.ren (nameR ps d)) | none => none) :: backOld ps d H (k + 1) l
def backU (ps : List Nat) (d : Nat) (H : List (Nat × Ob)) : Upd := backOld ps d H 0 ps ++ backNew ps d H
def keysB (ps : List Nat) (l : List Nat) (H : List (Nat × Ob)) : Bool := l.all fun k => (look H k).isSome
def retOk (ps : List Nat) (d : Nat) (lent : Bool) (r : AV) (H : List (Nat × Ob)) : Bool :=
  nodupB (H.map Prod.fst) && H.all (fun x => decide (x.1 < ps.length + 8)) && keysB ps r.ids H && H.all (fun x => keysB ps x.2.ids H && match x.2 with | .row _ _ _ _ _ hl => hl.isEmpty | _ => true) &&
  (!lent || (r.fresh && H.all fun x => x.2.fresh))
def PCall (P : Program) (G : List (Nat × PV)) (f : FuncId) (args : List AV) (H : List (Nat × Ob)) (R : AV → List (Nat × Ob) → Prop) : Prop :=
  (∃ fn, P.funcs[f]? = some fn ∧ fn.body.isSome = true ∧ (fn.name == "runtime.NumGoroutine") = false) ∧
  ∀ (w : World) (Z0 : Nat → Prop) (ι : Nat → Value) (ow : Nat → Option Nat) (vs : Array Value), vs.size = args.length →
    (∀ b i, ow b = some i → (look H i).isSome = true) → (∀ b, Z0 b → ow b = none) →
    (∀ i o, look H i = some o → ObOk (fun _ => False) Z0 (fun b => ow b = some i) ι w (ι i) o) →
    (∀ j c, args[j]? = some c → RepA (fun _ => False) Z0 ι w c (vs.getD j undef)) →
    (∀ g c, look G g = some c → RepP Z0 w c (.pointer (some ⟨g, 0, none⟩))) →
    Calls P f vs w (fun e w' => ∃ (x : Value) (r : AV) (H' : List (Nat × Ob)) (ι' : Nat → Value) (ow' : Nat → Option Nat), e = .returned x ∧ R r H' ∧
      (∀ i, (look H i).isSome = true → (look H' i).isSome = true → ι' i = ι i) ∧
      RepA (fun b => ow' b = none ∧ ((∃ i, ow b = some i) ∨ w.heap.size ≤ b)) (fun b => ow' b = none ∧ (Z0 b ∨ (∃ i, ow b = some i) ∨ w.heap.size ≤ b)) ι' w' r x ∧
      (∀ i o, look H' i = some o → ObOk (fun b => ow' b = none ∧ ((∃ i, ow b = some i) ∨ w.heap.size ≤ b)) (fun b => ow' b = none ∧ (Z0 b ∨ (∃ i, ow b = some i) ∨ w.heap.size ≤ b)) (fun b => ow' b = some i) ι' w' (ι' i) o) ∧
      (∀ b i, ow' b = some i → (look H' i).isSome = true ∧ ((∃ k, ow b = some k) ∨ w.heap.size ≤ b)) ∧ Ext (fun b => ∃ i, ow b = some i) w w')
def flatC (ps : List Nat) : AV → Bool
  | .own j => ps.contains j
  | c => c.ids.isEmpty
def flatOb (ps : List Nat) : Option Ob → Bool
  | some (.box cs) => cs.all (flatC ps)
  | some (.row _ _ _ _ _ hl) => hl.isEmpty
  | some (.map _ _) => true
  | none => true
def near (ob : Nat → Option Ob) (vs : List AV) : List Nat := AV.idss vs ++ (AV.idss vs).flatMap fun i => match ob i with
  | some (.box cs) => AV.idss cs
  | _ => []
def flatB (ob : Nat → Option Ob) (ps : List Nat) (vs : List AV) : Bool := ps.all fun i => (near ob vs).contains i && flatOb ps (ob i)
def ACall (P : Program) (G : List (Nat × PV)) (det : Bool) (ob : Nat → Option Ob) (d : Nat) (f : FuncId) (vs : List AV) (K : AV → Upd → Prop) : Prop :=
  ∃ ps cargs H, nodupB ps = true ∧ (ps.all fun i => !((List.range 8).map (nm d)).contains i) = true ∧ AV.args ob ps vs = some cargs ∧ handed ob ps 0 ps = some H ∧
    ∃ R, PCall P G f cargs H R ∧ (det = true → flatB ob ps vs = true ∧ ∃ r0 H0, R r0 H0 ∧ ∀ r H', R r H' → r = r0 ∧ H' = H0) ∧
      ∀ r H', R r H' → retOk ps d (lentB ob ps vs) r H' = true ∧ K (r.ren (nameR ps d)) (backU ps d H')
theorem rens_get (σ : Nat → Nat) : ∀ (cs : List AV) (j : Nat), (AV.rens σ cs)[j]? = (cs[j]?).map (AV.ren σ)
  | [], j => by simp [AV.rens]
  | c :: cs, 0 => by simp [AV.rens]
  | c :: cs, j + 1 => by simp [AV.rens, rens_get σ cs j]
theorem rens_length (σ : Nat → Nat) : ∀ (cs : List AV), (AV.rens σ cs).length = cs.length
  | [] => rfl
  | c :: cs => by simp [AV.rens, rens_length σ cs]
theorem idss_mem {cs : List AV} {j : Nat} {c : AV} {i : Nat} (hc : cs[j]? = some c) (hi : i ∈ c.ids) : i ∈ AV.idss cs := by
  induction cs generalizing j with
  | nil => simp at hc
  | cons d cs ih =>
    simp only [AV.idss, List.mem_append]
    cases j with
    | zero => simp at hc; subst hc; exact .inl hi
    | succ j => exact .inr (ih (by simpa using hc))
theorem RepA.ren {F F' Z Z' : Nat → Prop} {ι ι' : Nat → Value} {w : World} {σ : Nat → Nat} (hF : ∀ b, F b → b < w.heap.size → F' b) (hZ : ∀ b, Z b → b < w.heap.size → Z' b)
    {c : AV} {x : Value} (hx : RepA F Z ι w c x) (hi : ∀ k, k ∈ c.ids → ι' (σ k) = ι k) : RepA F' Z' ι' w (c.ren σ) x := by
  induction hx with
  | pt c x h => exact .pt _ _ (h.mono fun b hb hl => ⟨rfl, hF b hb hl⟩)
  | pf c x h => exact .pf _ _ (h.mono fun b hb hl => ⟨rfl, hZ b hb hl⟩)
  | own i => rw [← hi i (by simp [AV.ids])]; exact .own _
  | adr i off b h => exact .adr _ off b ((hi i (by simp [AV.ids])).trans h)
  | elt i esz k off b n cap h => exact .elt _ esz k off b n cap ((hi i (by simp [AV.ids])).trans h)
  | vw i esz k x h => exact .vw _ esz k x (by rw [h, hi i (by simp [AV.ids])])
  | ag cs xs h1 h2 ih =>
    refine .ag _ xs (by rw [rens_length]; exact h1) fun j c hj => ?_
    rw [rens_get, Option.map_eq_some_iff] at hj
    obtain ⟨c', hj, rfl⟩ := hj
    exact ih j c' hj fun k hk => hi k (by simp only [AV.ids]; exact idss_mem hj hk)
  | tp cs xs h1 h2 ih =>
    refine .tp _ xs (by rw [rens_length]; exact h1) fun j c hj => ?_
    rw [rens_get, Option.map_eq_some_iff] at hj
    obtain ⟨c', hj, rfl⟩ := hj
    exact ih j c' hj fun k hk => hi k (by simp only [AV.ids]; exact idss_mem hj hk)
  | cl f first caps fs cs h1 h2 h3 h4 ih3 ih4 =>
    refine .cl f _ _ fs cs (by rw [rens_length]; exact h1) (by rw [rens_length]; exact h2) (fun j c hj => ?_) (fun j c hj => ?_)
    · rw [rens_get, Option.map_eq_some_iff] at hj
      obtain ⟨c', hj, rfl⟩ := hj
      exact ih3 j c' hj fun k hk => hi k (by simp only [AV.ids, List.mem_append]; exact .inl (idss_mem hj hk))
    · rw [rens_get, Option.map_eq_some_iff] at hj
      obtain ⟨c', hj, rfl⟩ := hj
      exact ih4 j c' hj fun k hk => hi k (by simp only [AV.ids, List.mem_append]; exact .inr (idss_mem hj hk))
theorem rep_p {F Z : Nat → Prop} {ι : Nat → Value} {w : World} {fr : Bool} {c : PV} {y : Value} : RepA F Z ι w (.p fr c) y ↔ RepP (if fr then F else Z) w c y := by
  cases fr
  · exact ⟨fun h => by cases h; assumption, fun h => .pf _ _ h⟩
  · exact ⟨fun h => by cases h; assumption, fun h => .pt _ _ h⟩
theorem rep_v {F Z : Nat → Prop} {ι : Nat → Value} {w : World} {fr : Bool} {x y : Value} (h : RepA F Z ι w (.p fr (.v x)) y) : y = x := by
  cases h with
  | pt _ _ h => cases h; rfl
  | pf _ _ h => cases h; rfl
theorem rep_mkv {F Z : Nat → Prop} {ι : Nat → Value} {w : World} (x : Value) : RepA F Z ι w (.p true (.v x)) x := .pt _ _ (.v x)
theorem rep_mk {F Z : Nat → Prop} {ι : Nat → Value} {w : World} {fr : Bool} {c : PV} {y : Value} (h : RepP (if fr then F else Z) w c y) : RepA F Z ι w (AV.mk fr c) y := by
  unfold AV.mk
  split
  · cases h; exact rep_mkv _
  · exact rep_p.2 h
def updO (ob : Nat → Option Ob) : Upd → Nat → Option Ob
  | [], i => ob i
  | (k, o) :: u, i => updO (fun j => if k = j then o else ob j) u i
theorem obj_upd (u : Upd) : ∀ (s : St) (i : Nat), (s.upd u).obj i = updO s.obj u i := by
  induction u with
  | nil => intro s i; rfl
  | cons x u ih =>
    intro s i
    obtain ⟨k, o⟩ := x
    cases o with
    | none =>
      simp only [St.upd, updO]
      rw [ih]
      congr 1
      funext j
      rw [St.obj_delOb]
    | some o =>
      simp only [St.upd, updO]
      rw [ih]
      congr 1
      funext j
      rw [St.obj_setOb]
theorem get_upd (u : Upd) (s : St) (t : Nat) : (s.upd u).get t = s.get t := by
  simp only [St.get, env_upd]
theorem updO_out (u : Upd) : ∀ (ob : Nat → Option Ob) (i : Nat), i ∉ u.map Prod.fst → updO ob u i = ob i := by
  induction u with
  | nil => intro ob i h; rfl
  | cons x u ih =>
    intro ob i h
    obtain ⟨k, o⟩ := x
    simp only [List.map_cons, List.mem_cons, not_or] at h
    simp only [updO]
    rw [ih _ i h.2]
    have : k ≠ i := fun e => h.1 e.symm
    simp [this]
theorem updO_congr (u : Upd) : ∀ (ob ob' : Nat → Option Ob) (i : Nat), ob i = ob' i → updO ob u i = updO ob' u i := by
  induction u with
  | nil => intro ob ob' i h; exact h
  | cons x u ih =>
    intro ob ob' i h
    obtain ⟨k, o⟩ := x
    simp only [updO]
    refine ih _ _ i ?_
    by_cases e : k = i <;> simp [e, h]
theorem updO_in (u : Upd) : ∀ (ob ob' : Nat → Option Ob) (i : Nat), i ∈ u.map Prod.fst → updO ob u i = updO ob' u i := by
  induction u with
  | nil => intro ob ob' i h; simp at h
  | cons x u ih =>
    intro ob ob' i h
    obtain ⟨k, o⟩ := x
    simp only [updO]
    by_cases e : i ∈ u.map Prod.fst
    · exact ih _ _ i e
    · simp only [List.map_cons, List.mem_cons] at h
      have : i = k := h.resolve_right e
      subst this
      rw [updO_out _ _ _ e, updO_out _ _ _ e]
      simp
theorem updO_mem : ∀ (u : Upd) (ob : Nat → Option Ob) (i : Nat) (o : Option Ob), (u.map Prod.fst).Nodup → (i, o) ∈ u → updO ob u i = o
  | (k, o') :: u, ob, i, o, hn, h => by
    simp only [List.map_cons, List.nodup_cons] at hn
    simp only [updO]
    rcases List.mem_cons.1 h with e | h
    · cases e
      rw [updO_out _ _ _ hn.1]
      simp
    · exact updO_mem u _ i o hn.2 h
end Go.Gw
