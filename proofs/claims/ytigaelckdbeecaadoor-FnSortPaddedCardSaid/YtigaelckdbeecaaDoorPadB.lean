/- Padded tables: marks, and which tables are valid; with no condition. -/
import Derived.Test.YtigaelckdbeecaaDoorTable
import Derived.Test.YtigaelckdbeecaaDoorSame
import Derived.KernelRfl
namespace Go.Gw
open Go Go.Proofs
set_option linter.unusedSimpArgs false
set_option linter.unusedVariables false
set_option maxRecDepth 100000
def ir31_L1 : Ir :=
  (.seq
  (.seq
  (.reg [11, 12, 13] [o 11 (.mov (tt 5)),
    o 12 (.mov (tt 0)),
    o 13 (.len (tt 12)),
    o 14 (.bin .lss (tt 11) (tt 13))])
  (.cond (tt 14)
   .skip
   (.exit 0)))
  (.seq
  (.block 1
   (.seq
   (.dreg [17, 18, 19, 20, 21, 22, 23, 24] [0, 0, 3, 7, 0, 0, 48, 112, 255] [(3, 1020), (7, 1024)] [o 17 (.mov (tt 0)),
     o 18 (.mov (tt 5)),
     o 19 (.idx 1 (tt 17) (tt 18)),
     o 20 (.load false 1 (tt 19)),
     o 21 (.mov (tt 1)),
     o 22 (.mov (tt 5)),
     o 23 (.idx 1 (tt 21) (tt 22)),
     o 24 (.load false 1 (tt 23)),
     o 25 (.binB .neq (tt 20) (tt 24))])
   (.cond (tt 25)
    (.seq
    (.reg [] [o 4 (.mov (cb false))])
    .ret)
    .skip)))
  (.reg [15, 16] [o 15 (.mov (tt 5)),
    o 16 (.bin .add (tt 15) (ci 1)),
    o 5 (.mov (tt 16))])))
def ir31_T2 : Ir :=
  (.seq
  (.reg [] [o 4 (.mov (cb true))])
  .ret)
def ir31 : Ir :=
  (.seq
  (.reg [] [o 4 (.mov (cb false))])
  (.seq
  (.seq
  (.reg [6, 7, 8, 9] [o 6 (.mov (tt 0)),
    o 7 (.len (tt 6)),
    o 8 (.mov (tt 1)),
    o 9 (.len (tt 8)),
    o 10 (.bin .neq (tt 7) (tt 9))])
  (.cond (tt 10)
   (.seq
   (.reg [] [o 4 (.mov (cb false))])
   .ret)
   .skip))
  (.seq
  (.seq
  (.reg [] [o 5 (.mov (ci 0))])
  (.block 0
   (.loop ir31_L1)))
  ir31_T2)))
def keep31 : List Nat := [0, 1, 4, 5, 10, 14, 25]
def res31 : List RI := [.tmp 4]
theorem chk31 : chk Tryd.prog 31 2 keep31 = some (ir31, res31) := by kernel_rfl
def ir34_L1 : Ir :=
  (.seq
  (.reg [] [o 10 (.bin .lss (tt 9) (tt 8))])
  (.seq
  (.cond (tt 10)
   .skip
   (.exit 0))
  (.seq
  (.block 1
   (.seq
   (.reg [11, 12] [o 11 (.idx 1 (tt 7) (tt 9)),
     o 12 (.load false 1 (tt 11)),
     o 5 (.mov (tt 12))])
   (.seq
   (.reg [] [o 13 (.mov (tt 5))])
   (.cond (tt 13)
    (.reg [14, 15] [o 14 (.mov (tt 3)),
      o 15 (.bin .add (tt 14) (ci 1)),
      o 3 (.mov (tt 15))])
    .skip))))
  (.reg [16] [o 16 (.bin .add (tt 9) (ci 1)),
    o 9 (.mov (tt 16))]))))
def ir34_T2 : Ir :=
  (.seq
  (.reg [17] [o 17 (.mov (tt 3)),
    o 2 (.mov (tt 17))])
  .ret)
def ir34 : Ir :=
  (.seq
  (.reg [] [o 1 (.box 3 (tt 0)),
    o 2 (.mov (ci 0))])
  (.seq
  (.reg [] [o 3 (.mov (ci 0))])
  (.seq
  (.seq
  (.reg [6] [o 6 (.fadr 2 (tt 1)),
    o 7 (.load false 1 (tt 6)),
    o 8 (.len (tt 7)),
    o 9 (.mov (ci 0))])
  (.block 0
   (.loop ir34_L1)))
  ir34_T2)))
def keep34 : List Nat := [0, 1, 2, 3, 5, 7, 8, 9, 10, 13]
def res34 : List RI := [.tmp 2]
theorem chk34 : chk Tryd.prog 34 1 keep34 = some (ir34, res34) := by kernel_rfl
def ir45 : Ir :=
  (.seq
  (.reg [] [o 2 (.mov (cb false))])
  (.seq
  (.reg [3, 4] [o 3 (.mov (tt 0)),
    o 4 (.bin .neq (tt 3) (ci 0)),
    o 2 (.mov (tt 4))])
  .ret))
def keep45 : List Nat := [0, 2]
def res45 : List RI := [.tmp 2]
theorem chk45 : chk Tryd.prog 45 1 keep45 = some (ir45, res45) := by kernel_rfl
def ir13_L1 : Ir :=
  (.seq
  (.reg [] [o 36 (.bin .lss (tt 35) (tt 34))])
  (.seq
  (.cond (tt 36)
   .skip
   (.exit 0))
  (.seq
  (.block 1
   (.seq
   (.reg [37, 38, 39] [o 37 (.mov (tt 35)),
     o 38 (.idx 1 (tt 33) (tt 35)),
     o 39 (.load false 1 (tt 38)),
     o 3 (.mov (tt 37)),
     o 4 (.mov (tt 39))])
   (.seq
   (.reg [40, 41, 42, 43, 44, 45, 46, 47, 48] [o 40 (.fadr 2 (tt 1)),
     o 41 (.load false 1 (tt 40)),
     o 42 (.mov (tt 3)),
     o 43 (.idx 1 (tt 41) (tt 42)),
     o 44 (.load false 1 (tt 43)),
     o 45 (.un .not (tt 44)),
     o 46 (.mov (tt 45)),
     og 47 46 true (.mov (tt 4)),
     og 48 46 true (.call 44 [(tt 47), (.func 45)]),
     o 49 (.pick (tt 46) (tt 48) (cb false))])
   (.cond (tt 49)
    (.seq
    (.reg [] [o 2 (.mov (cb false))])
    .ret)
    .skip))))
  (.reg [50] [o 50 (.bin .add (tt 35) (ci 1)),
    o 35 (.mov (tt 50))]))))
def ir13_T2 : Ir :=
  (.seq
  (.reg [] [o 2 (.mov (cb true))])
  .ret)
def ir13 : Ir :=
  (.seq
  (.reg [] [o 1 (.box 3 (tt 0)),
    o 2 (.mov (cb false))])
  (.seq
  (.seq
  (.reg [5, 6, 7, 8, 9, 10, 11, 12, 13, 14, 15, 16, 17, 18, 19, 20, 21, 22, 23, 24, 25, 26, 27, 28, 29, 30] [o 5 (.fadr 0 (tt 1)),
    o 6 (.load false 1 (tt 5)),
    o 7 (.call 42 [(tt 6)]),
    o 8 (.un .not (tt 7)),
    o 9 (.mov (tt 8)),
    og 10 9 false (.fadr 1 (tt 1)),
    og 11 9 false (.load false 1 (tt 10)),
    og 12 9 false (.len (tt 11)),
    og 13 9 false (.bin .gtr (tt 12) (ci 256)),
    o 14 (.pick (tt 9) (cb true) (tt 13)),
    o 15 (.mov (tt 14)),
    og 16 15 false (.fadr 2 (tt 1)),
    og 17 15 false (.load false 1 (tt 16)),
    og 18 15 false (.len (tt 17)),
    og 19 15 false (.fadr 1 (tt 1)),
    og 20 15 false (.load false 1 (tt 19)),
    og 21 15 false (.len (tt 20)),
    og 22 15 false (.bin .neq (tt 18) (tt 21)),
    o 23 (.pick (tt 15) (cb true) (tt 22)),
    o 24 (.mov (tt 23)),
    og 25 24 false (.fadr 0 (tt 1)),
    og 26 24 false (.load false 1 (tt 25)),
    og 27 24 false (.fadr 1 (tt 1)),
    og 28 24 false (.load false 1 (tt 27)),
    og 29 24 false (.call 43 [(tt 26), (tt 28)]),
    og 30 24 false (.un .not (tt 29)),
    o 31 (.pick (tt 24) (cb true) (tt 30))])
  (.cond (tt 31)
   (.seq
   (.reg [] [o 2 (.mov (cb false))])
   .ret)
   .skip))
  (.seq
  (.seq
  (.reg [32] [o 32 (.fadr 1 (tt 1)),
    o 33 (.load false 1 (tt 32)),
    o 34 (.len (tt 33)),
    o 35 (.mov (ci 0))])
  (.block 0
   (.loop ir13_L1)))
  ir13_T2)))
def keep13 : List Nat := [0, 1, 2, 3, 4, 31, 33, 34, 35, 36, 49]
def res13 : List RI := [.tmp 2]
theorem chk13 : chk Tryd.prog 13 1 keep13 = some (ir13, res13) := by kernel_rfl
def ir24_L1 : Ir :=
  (.seq
  (.seq
  (.reg [22, 23, 24, 25, 26, 27, 28] [o 22 (.mov (tt 4)),
    o 23 (.fadr 1 (tt 1)),
    o 24 (.load false 1 (tt 23)),
    o 25 (.mov (tt 3)),
    o 26 (.idx 1 (tt 24) (tt 25)),
    o 27 (.load false 1 (tt 26)),
    o 28 (.len (tt 27)),
    o 29 (.bin .lss (tt 22) (tt 28))])
  (.cond (tt 29)
   .skip
   (.exit 2)))
  (.seq
  (.block 3
   (.seq
   (.reg [32, 33, 34, 35, 36, 37, 38, 39, 40, 41, 42, 43, 44, 45, 46, 47, 48, 49, 50, 51, 52, 53, 54, 55, 56, 57, 58, 59, 60, 61, 62, 63, 64, 65, 66] [o 32 (.fadr 1 (tt 1)),
     o 33 (.load false 1 (tt 32)),
     o 34 (.mov (tt 3)),
     o 35 (.idx 1 (tt 33) (tt 34)),
     o 36 (.load false 1 (tt 35)),
     o 37 (.mov (tt 4)),
     o 38 (.idx 1 (tt 36) (tt 37)),
     o 39 (.load false 1 (tt 38)),
     o 40 (.call 57 [(tt 39), (ci (-100000)), (ci 100000)]),
     o 41 (.un .not (tt 40)),
     o 42 (.mov (tt 41)),
     og 43 42 false (.mov (tt 3)),
     og 44 42 false (.fadr 2 (tt 1)),
     og 45 42 false (.load false 1 (tt 44)),
     og 46 42 false (.len (tt 45)),
     og 47 42 false (.bin .lss (tt 43) (tt 46)),
     og 48 42 false (.mov (tt 47)),
     og 49 48 true (.fadr 2 (tt 1)),
     og 50 48 true (.load false 1 (tt 49)),
     og 51 48 true (.mov (tt 3)),
     og 52 48 true (.idx 1 (tt 50) (tt 51)),
     og 53 48 true (.load false 1 (tt 52)),
     og 54 48 true (.un .not (tt 53)),
     og 55 42 false (.pick (tt 48) (tt 54) (cb false)),
     og 56 42 false (.mov (tt 55)),
     og 57 56 true (.fadr 1 (tt 1)),
     og 58 56 true (.load false 1 (tt 57)),
     og 59 56 true (.mov (tt 3)),
     og 60 56 true (.idx 1 (tt 58) (tt 59)),
     og 61 56 true (.load false 1 (tt 60)),
     og 62 56 true (.mov (tt 4)),
     og 63 56 true (.idx 1 (tt 61) (tt 62)),
     og 64 56 true (.load false 1 (tt 63)),
     og 65 56 true (.bin .neq (tt 64) (ci 0)),
     og 66 42 false (.pick (tt 56) (tt 65) (cb false)),
     o 67 (.pick (tt 42) (cb true) (tt 66))])
   (.cond (tt 67)
    (.seq
    (.reg [] [o 2 (.mov (cb false))])
    .ret)
    .skip)))
  (.reg [30, 31] [o 30 (.mov (tt 4)),
    o 31 (.bin .add (tt 30) (ci 1)),
    o 4 (.mov (tt 31))])))
def ir24_T2 : Ir :=
  (.reg [10, 11] [o 10 (.mov (tt 3)),
    o 11 (.bin .add (tt 10) (ci 1)),
    o 3 (.mov (tt 11))])
def ir24_L3 : Ir :=
  (.seq
  (.seq
  (.reg [5, 6, 7, 8] [o 5 (.mov (tt 3)),
    o 6 (.fadr 1 (tt 1)),
    o 7 (.load false 1 (tt 6)),
    o 8 (.len (tt 7)),
    o 9 (.bin .lss (tt 5) (tt 8))])
  (.cond (tt 9)
   .skip
   (.exit 0)))
  (.seq
  (.block 1
   (.seq
   (.seq
   (.dreg [12, 13, 14, 15, 16, 17, 18, 19, 20] [0, 1, 0, 7, 15, 31, 0, 64, 192, 511] [(1, 1013), (4, 1016), (7, 1019)] [o 12 (.fadr 1 (tt 1)),
     o 13 (.load false 1 (tt 12)),
     o 14 (.mov (tt 3)),
     o 15 (.idx 1 (tt 13) (tt 14)),
     o 16 (.load false 1 (tt 15)),
     o 17 (.len (tt 16)),
     o 18 (.fadr 0 (tt 1)),
     o 19 (.load false 1 (tt 18)),
     o 20 (.len (tt 19)),
     o 21 (.bin .neq (tt 17) (tt 20))])
   (.cond (tt 21)
    (.seq
    (.reg [] [o 2 (.mov (cb false))])
    .ret)
    .skip))
   (.seq
   (.reg [] [o 4 (.mov (ci 0))])
   (.block 2
    (.loop ir24_L1)))))
  ir24_T2))
def ir24_T4 : Ir :=
  (.seq
  (.reg [68, 69, 70, 71, 72, 73, 74, 75, 76, 77, 78, 79, 80, 81, 82, 83, 84, 85] [o 68 (.fadr 0 (tt 1)),
    o 69 (.load false 1 (tt 68)),
    o 70 (.call 58 [(tt 69)]),
    o 71 (.mov (tt 70)),
    og 72 71 true (.fadr 1 (tt 1)),
    og 73 71 true (.load false 1 (tt 72)),
    og 74 71 true (.len (tt 73)),
    og 75 71 true (.bin .leq (tt 74) (ci 256)),
    o 76 (.pick (tt 71) (tt 75) (cb false)),
    o 77 (.mov (tt 76)),
    og 78 77 true (.fadr 2 (tt 1)),
    og 79 77 true (.load false 1 (tt 78)),
    og 80 77 true (.len (tt 79)),
    og 81 77 true (.fadr 1 (tt 1)),
    og 82 77 true (.load false 1 (tt 81)),
    og 83 77 true (.len (tt 82)),
    og 84 77 true (.bin .eql (tt 80) (tt 83)),
    o 85 (.pick (tt 77) (tt 84) (cb false)),
    o 2 (.mov (tt 85))])
  .ret)
def ir24 : Ir :=
  (.seq
  (.reg [] [o 1 (.box 3 (tt 0)),
    o 2 (.mov (cb false))])
  (.seq
  (.seq
  (.reg [] [o 3 (.mov (ci 0))])
  (.block 0
   (.loop ir24_L3)))
  ir24_T4))
def keep24 : List Nat := [0, 1, 2, 3, 4, 9, 21, 29, 67]
def res24 : List RI := [.tmp 2]
theorem chk24 : chk Tryd.prog 24 1 keep24 = some (ir24, res24) := by kernel_rfl

abbrev MK (r : Nat → Bool) : Nat → Nat → PV := fun i _ => .v (.bool (r i))
abbrev ML (nn : Bool) (k : Nat) (r : Nat → Bool) : AV := .p false (.sl nn 1 k (MK r))
abbrev PD (nn nn' nn'' : Bool) (n : Nat) (f : Nat → ByteArray) (m : Nat) (w : Nat → Nat) (h : Nat → Nat → Int) (k : Nat) (r : Nat → Bool) : AV := .ag [TL nn n f, RL nn' m w h, ML nn'' k r]
def sameM (k : Nat) (r : Nat → Bool) (k' : Nat) (r' : Nat → Bool) : Bool := decide (k = k') && allB (fun i => r i == r' i) k
theorem ev_sM : ∀ (nn nn' : Bool) (k : Nat) (r : Nat → Bool) (k' : Nat) (r' : Nat → Bool), ev G0 res31 [] (3000 : Nat) (Or.nil.split Or.nil) [Item.ir ir31] (start [ML nn k r, ML nn' k' r'] []) = VC.split ((↑k : Int) != (↑k' : Int)) (VC.doneP (AV.p true (PV.v (Value.bool false)))) (VC.loop ir31_L1 [Item.bend (0 : Nat), Item.ir ir31_T2] (St.mk [((0 : Nat), AV.p false (PV.sl nn (1 : Nat) k (MK r))), ((1 : Nat), AV.p false (PV.sl nn' (1 : Nat) k' (MK r'))), ((4 : Nat), AV.p true (PV.v (Value.bool false))), ((10 : Nat), AV.p true (PV.v (Value.bool ((↑k : Int) != (↑k' : Int))))), ((5 : Nat), AV.p true (PV.v (Value.int IntKind.i64 (0 : Int))))] [])) := by intros; kernel_rfl
def st_sM (nn nn' : Bool) (n : Nat) (f g : Nat → Bool) (k : Nat) : St := ⟨[(0, ML nn n f), (1, ML nn' n g), (5, AI k)], []⟩
theorem evr_sM : ∀ (nn nn' : Bool) (n : Nat) (f g : Nat → Bool) (I : Nat → St → Prop) (k : Nat), ev G0 res31 [] (3000 : Nat) ((Or.nil.split Or.nil).split Or.nil) [Item.ir ir31_L1, Item.lend (I k), Item.bend (0 : Nat), Item.ir ir31_T2] (st_sM nn nn' n f g k) = VC.split (decide ((↑k : Int) < (↑n : Int))) (VC.need ((0 : Int) ≤ (↑k : Int) ∧ (↑k : Int).toNat < n) (VC.need ((0 : Int) ≤ (↑k : Int) ∧ (↑k : Int).toNat < n) (VC.split (!f (↑k : Int).toNat == g (↑k : Int).toNat) (VC.doneP (AV.p true (PV.v (Value.bool false)))) (VC.lend (I k) (St.mk [((0 : Nat), AV.p false (PV.sl nn (1 : Nat) n (MK f))), ((1 : Nat), AV.p false (PV.sl nn' (1 : Nat) n (MK g))), ((5 : Nat), AV.p true (PV.v (Value.int IntKind.i64 (IntKind.i64.wrap ((↑k : Int) + (1 : Int)))))), ((14 : Nat), AV.p true (PV.v (Value.bool (decide ((↑k : Int) < (↑n : Int)))))), ((25 : Nat), AV.p true (PV.v (Value.bool !f (↑k : Int).toNat == g (↑k : Int).toNat)))] []))))) (VC.doneP (AV.p true (PV.v (Value.bool true)))) := by intros; kernel_rfl
theorem ev_re : ∀ (n : Nat) (f : Nat → ByteArray) (m : Nat) (w : Nat → Nat) (h : Nat → Nat → Int) (k : Nat) (r : Nat → Bool), ev G0 res34 [] (3000 : Nat) Or.nil [Item.ir ir34] (start [PD false false false n f m w h k r] []) = VC.loop ir34_L1 [Item.bend (0 : Nat), Item.ir ir34_T2] (St.mk [((0 : Nat), AV.ag [AV.p false (PV.sl false (1 : Nat) n fun (i x : Nat) => PT (f i)), AV.p false (PV.sl false (1 : Nat) m (RR w h)), AV.p false (PV.sl false (1 : Nat) k (MK r))]), ((1 : Nat), AV.adr (1 : Nat) (0 : Nat)), ((2 : Nat), AV.p true (PV.v (Value.int IntKind.i64 (0 : Int)))), ((3 : Nat), AV.p true (PV.v (Value.int IntKind.i64 (0 : Int)))), ((7 : Nat), AV.p false (PV.sl false (1 : Nat) k (MK r))), ((8 : Nat), AV.p true (PV.v (Value.int IntKind.i64 (↑k : Int)))), ((9 : Nat), AV.p true (PV.v (Value.int IntKind.i64 (0 : Int))))] [((1 : Nat), Ob.box [AV.p false (PV.sl false (1 : Nat) n fun (i x : Nat) => PT (f i)), AV.p false (PV.sl false (1 : Nat) m (RR w h)), AV.p false (PV.sl false (1 : Nat) k (MK r))])]) := by intros; kernel_rfl
def cntB (r : Nat → Bool) : Nat → Nat
  | 0 => 0
  | k + 1 => if r k then cntB r k + 1 else cntB r k
def st_re (k : Nat) (r : Nat → Bool) (i : Nat) : St := ⟨[(3, AI (cntB r i)), (7, ML false k r), (8, AI k), (9, AI i)], []⟩
theorem evr_re : ∀ (k : Nat) (r : Nat → Bool) (I : Nat → St → Prop) (i : Nat), ev G0 res34 [] (3000 : Nat) ((Or.nil.split Or.nil).split Or.nil) [Item.ir ir34_L1, Item.lend (I i), Item.bend (0 : Nat), Item.ir ir34_T2] (st_re k r i) = VC.split (decide ((↑i : Int) < (↑k : Int))) (VC.need ((0 : Int) ≤ (↑i : Int) ∧ (↑i : Int).toNat < k) (VC.split (r (↑i : Int).toNat) (VC.lend (I i) (St.mk [((3 : Nat), AV.p true (PV.v (Value.int IntKind.i64 (IntKind.i64.wrap ((↑(cntB r i) : Int) + (1 : Int)))))), ((7 : Nat), AV.p false (PV.sl false (1 : Nat) k (MK r))), ((8 : Nat), AV.p true (PV.v (Value.int IntKind.i64 (↑k : Int)))), ((9 : Nat), AV.p true (PV.v (Value.int IntKind.i64 (IntKind.i64.wrap ((↑i : Int) + (1 : Int)))))), ((10 : Nat), AV.p true (PV.v (Value.bool (decide ((↑i : Int) < (↑k : Int)))))), ((5 : Nat), AV.p true (PV.v (Value.bool (r (↑i : Int).toNat)))), ((13 : Nat), AV.p true (PV.v (Value.bool (r (↑i : Int).toNat))))] [])) (VC.lend (I i) (St.mk [((3 : Nat), AV.p true (PV.v (Value.int IntKind.i64 (↑(cntB r i) : Int)))), ((7 : Nat), AV.p false (PV.sl false (1 : Nat) k (MK r))), ((8 : Nat), AV.p true (PV.v (Value.int IntKind.i64 (↑k : Int)))), ((9 : Nat), AV.p true (PV.v (Value.int IntKind.i64 (IntKind.i64.wrap ((↑i : Int) + (1 : Int)))))), ((10 : Nat), AV.p true (PV.v (Value.bool (decide ((↑i : Int) < (↑k : Int)))))), ((5 : Nat), AV.p true (PV.v (Value.bool (r (↑i : Int).toNat)))), ((13 : Nat), AV.p true (PV.v (Value.bool (r (↑i : Int).toNat))))] [])))) (VC.doneP (AV.p true (PV.v (Value.int IntKind.i64 (↑(cntB r i) : Int))))) := by intros; kernel_rfl
theorem ev_nz : ∀ (x : Int), ev G0 res45 [] (3000 : Nat) Or.nil [Item.ir ir45] (start [AI x] []) = VC.doneP (AV.p true (PV.v (Value.bool (x != (0 : Int))))) := by intros; kernel_rfl
theorem c_nz (x : Int) : PRet Tryd.prog G0 45 [AI x] (AB (x != 0)) := by
  refine PRet.by chk45 (ev_nz x) ?_
  simp only [VC.holds_split, VC.holds_need, VC.holds_doneP, VC.holds_done, VC.holds_either, VC.holds_call, VC.holds_callE, VC.holds_lend, VC.holds_stop, VC.holds_fail, decide_eq_true_eq, decide_eq_false_iff_not]
  exact ⟨trivial, trivial⟩
abbrev nzFn : AV := .cl 45 [] []
theorem ev_ixZ : ∀ (nn : Bool) (n : Nat) (f : Nat → Int), ev G0 res69 [] (3000 : Nat) Or.nil [Item.ir ir69] (start [IL nn n f, nzFn] []) = VC.loop ir69_L1 [Item.bend (0 : Nat), Item.ir ir69_T2] (St.mk [((0 : Nat), AV.p false (PV.sl nn (1 : Nat) n fun (i x : Nat) => PI (f i))), ((1 : Nat), AV.cl (45 : Nat) [] []), ((4 : Nat), AV.p true (PV.v (Value.int IntKind.i64 (0 : Int)))), ((7 : Nat), AV.p true (PV.v (Value.int IntKind.i64 (↑n : Int)))), ((8 : Nat), AV.p true (PV.v (Value.int IntKind.i64 (0 : Int))))] []) := by intros; kernel_rfl
def st_ixZ (nn : Bool) (n : Nat) (f : Nat → Int) (k : Nat) : St := ⟨[(0, IL nn n f), (1, nzFn), (7, AI n), (8, AI k)], []⟩
theorem evr_ixZ : ∀ (nn : Bool) (n : Nat) (f : Nat → Int) (I : Nat → St → Prop) (k : Nat), ev G0 res69 [] (3000 : Nat) ((Or.call [] (AB (f (↑k : Int).toNat != (0 : Int))) [] (Or.nil.split Or.nil)).split Or.nil) [Item.ir ir69_L1, Item.lend (I k), Item.bend (0 : Nat), Item.ir ir69_T2] (st_ixZ nn n f k) = VC.split (decide ((↑k : Int) < (↑n : Int))) (VC.need ((0 : Int) ≤ (↑k : Int) ∧ (↑k : Int).toNat < n) (VC.call (45 : Nat) [AV.p true (PV.v (Value.int IntKind.i64 (f (↑k : Int).toNat)))] [] (AB (f (↑k : Int).toNat != (0 : Int))) [] (VC.split (f (↑k : Int).toNat != (0 : Int)) (VC.doneP (AV.p true (PV.v (Value.int IntKind.i64 (↑k : Int))))) (VC.lend (I k) (St.mk [((0 : Nat), AV.p false (PV.sl nn (1 : Nat) n fun (i x : Nat) => PI (f i))), ((1 : Nat), AV.cl (45 : Nat) [] []), ((7 : Nat), AV.p true (PV.v (Value.int IntKind.i64 (↑n : Int)))), ((8 : Nat), AV.p true (PV.v (Value.int IntKind.i64 (IntKind.i64.wrap ((↑k : Int) + (1 : Int)))))), ((9 : Nat), AV.p true (PV.v (Value.bool (decide ((↑k : Int) < (↑n : Int)))))), ((5 : Nat), AV.p true (PV.v (Value.int IntKind.i64 (↑k : Int)))), ((16 : Nat), AV.p true (PV.v (Value.bool (f (↑k : Int).toNat != (0 : Int)))))] []))))) (VC.doneP (AV.p true (PV.v (Value.int IntKind.i64 (-1 : Int))))) := by intros; kernel_rfl
theorem c_ixZ (nn : Bool) (n : Nat) (f : Nat → Int) (hn : n ≤ 1048576) : PSome Tryd.prog G0 69 [IL nn n f, nzFn] [] Int (fun r => decide (0 ≤ r) = !allB (fun i => f i == 0) n) (fun r => AI r) (fun _ => []) := by
  refine PCall.by chk69 rfl (ev_ixZ nn n f) ?_
  refine loop_by (st_ixZ nn n f) (fun k => k ≤ n ∧ ∀ j, j < k → (f j == 0) = true) (fun k => n - k) 0 [] [] [] (by simp) ?_ (evr_ixZ nn n f) fun k hk => ?_
  · simp [st_ixZ, hbs, St.lowers, St.lower, stLe, leEnv, leObs, obLe, injB, pinC, AV.leC, AV.leCs, PV.leC, PV.Le_v, St.get, St.obj, look, rho, isNew, keptC, renH, Mode.ok, Mode.isZ, PV.isVal, PV.isNilSl, List.all_nil, List.all_cons, List.any_nil, List.any_cons, List.map_nil, List.map_cons]
  · obtain ⟨hk, hall⟩ := hk
    simp only [VC.holds_split, VC.holds_need, VC.holds_doneP, VC.holds_done, VC.holds_either, VC.holds_call, VC.holds_callE, VC.holds_lend, VC.holds_stop, VC.holds_fail, decide_eq_true_eq, decide_eq_false_iff_not, Int.toNat_natCast]
    refine ⟨fun h1 => ⟨by omega, c_nz _, fun h2 => ?_, fun h2 => Again.mk (k + 1) [] [] [] ⟨by omega, fun j hj => ?_⟩ (by omega) ?_⟩, fun h1 => ?_⟩
    · have : allB (fun i => f i == 0) n = false := allB_no (show k < n by omega) (by simpa using h2)
      exact ⟨k, by simp [this], rfl, trivial⟩
    · by_cases h3 : j = k
      · subst h3; simpa using h2
      · exact hall j (by omega)
    · have e1 : IntKind.i64.wrap ((k : Int) + 1) = ((k + 1 : Nat) : Int) := wrap_in (by omega) (by omega)
      simp only [e1, st_ixZ]
      simp [hbs, St.lowers, St.lower, stLe, leEnv, leObs, obLe, injB, pinC, AV.leC, AV.leCs, PV.leC, PV.Le_v, St.get, St.obj, look, rho, isNew, keptC, renH, Mode.ok, Mode.isZ, PV.isVal, PV.isNilSl, List.all_nil, List.all_cons, List.any_nil, List.any_cons, List.map_nil, List.map_cons]
    · have : k = n := by omega
      subst this
      have : allB (fun i => f i == 0) k = true := allB_iff.2 hall
      exact ⟨-1, by simp [this], rfl, trivial⟩
theorem ev_cnZ : ∀ (nn : Bool) (n : Nat) (f : Nat → Int), ev G0 res44 [] (3000 : Nat) (Or.callE [] Int (fun (r : Int) => decide ((0 : Int) ≤ r) = !allB (fun (i : Nat) => f i == (0 : Int)) n) (fun (r : Int) => AI r) (fun (x : Int) => []) fun (r : Int) => Or.nil) [Item.ir ir44] (start [IL nn n f, nzFn] []) = VC.callE Int (69 : Nat) [AV.p false (PV.sl nn (1 : Nat) n fun (i x : Nat) => PI (f i)), AV.cl (45 : Nat) [] []] [] (fun (r : Int) => decide ((0 : Int) ≤ r) = !allB (fun (i : Nat) => f i == (0 : Int)) n) (fun (r : Int) => AI r) (fun (x : Int) => []) fun (r : Int) => VC.doneP (AV.p true (PV.v (Value.bool (decide ((0 : Int) ≤ r))))) := by intros; kernel_rfl
theorem c_cnZ (nn : Bool) (n : Nat) (f : Nat → Int) (hn : n ≤ 1048576) : PRet Tryd.prog G0 44 [IL nn n f, nzFn] (AB (!allB (fun i => f i == 0) n)) := by
  refine PRet.by chk44 (ev_cnZ nn n f) ?_
  simp only [VC.holds_split, VC.holds_need, VC.holds_doneP, VC.holds_done, VC.holds_either, VC.holds_call, VC.holds_callE, VC.holds_lend, VC.holds_stop, VC.holds_fail, decide_eq_true_eq, decide_eq_false_iff_not, intOf]
  refine ⟨c_ixZ nn n _ hn, fun r hr => ?_⟩
  simp [hr]
theorem ev_imPV : ∀ (n : Nat) (f : Nat → ByteArray) (m : Nat) (w : Nat → Nat) (h : Nat → Nat → Int) (k : Nat) (r : Nat → Bool), ev G0 res13 [] (3000 : Nat) (Or.call [] (AB (namesB n f)) [] (Or.nil.lit.lit.lit.lit.lit.lit.lit.lit.lit.lit.lit.lit.lit.lit.lit.lit.lit.lit.lit.lit.split (Or.nil.lit.lit.lit.lit.lit.lit.lit.lit.lit.lit.lit.lit.lit.lit.lit.split (Or.nil.lit.lit.lit.lit.lit.lit.lit.split (Or.call [] (AB (rowsB n m w h)) [] (Or.nil.split Or.nil).lit.lit).lit.lit.lit.lit).lit.lit.lit.lit.lit.lit.lit).lit.lit.lit.lit)) [Item.ir ir13] (start [PD false false false n f m w h k r] []) = VC.call (42 : Nat) [AV.p false (PV.sl false (1 : Nat) n fun (i x : Nat) => PT (f i))] [] (AB (namesB n f)) [] (VC.split (!namesB n f) (VC.doneP (AV.p true (PV.v (Value.bool false)))) (VC.split (decide ((256 : Int) < (↑m : Int))) (VC.doneP (AV.p true (PV.v (Value.bool false)))) (VC.split ((↑k : Int) != (↑m : Int)) (VC.doneP (AV.p true (PV.v (Value.bool false)))) (VC.call (43 : Nat) [AV.p false (PV.sl false (1 : Nat) n fun (i x : Nat) => PT (f i)), AV.p false (PV.sl false (1 : Nat) m (RR w h))] [] (AB (rowsB n m w h)) [] (VC.split (!rowsB n m w h) (VC.doneP (AV.p true (PV.v (Value.bool false)))) (VC.loop ir13_L1 [Item.bend (0 : Nat), Item.ir ir13_T2] (St.mk [((0 : Nat), AV.ag [AV.p false (PV.sl false (1 : Nat) n fun (i x : Nat) => PT (f i)), AV.p false (PV.sl false (1 : Nat) m (RR w h)), AV.p false (PV.sl false (1 : Nat) k (MK r))]), ((1 : Nat), AV.adr (1 : Nat) (0 : Nat)), ((2 : Nat), AV.p true (PV.v (Value.bool false))), ((31 : Nat), AV.p true (PV.v (Value.bool !rowsB n m w h))), ((33 : Nat), AV.p false (PV.sl false (1 : Nat) m (RR w h))), ((34 : Nat), AV.p true (PV.v (Value.int IntKind.i64 (↑m : Int)))), ((35 : Nat), AV.p true (PV.v (Value.int IntKind.i64 (0 : Int))))] [((1 : Nat), Ob.box [AV.p false (PV.sl false (1 : Nat) n fun (i x : Nat) => PT (f i)), AV.p false (PV.sl false (1 : Nat) m (RR w h)), AV.p false (PV.sl false (1 : Nat) k (MK r))])]))))))) := by intros; kernel_rfl
def st_imPV (n : Nat) (f : Nat → ByteArray) (m : Nat) (w : Nat → Nat) (h : Nat → Nat → Int) (k : Nat) (r : Nat → Bool) (i : Nat) : St := ⟨[(1, .adr 1 0), (33, RL false m w h), (34, AI m), (35, AI i)], [(1, .box [TL false n f, RL false m w h, ML false k r])]⟩
theorem evr_imPV : ∀ (n : Nat) (f : Nat → ByteArray) (m : Nat) (w : Nat → Nat) (h : Nat → Nat → Int) (k : Nat) (r : Nat → Bool) (I : Nat → St → Prop) (i : Nat), ev G0 res13 [] (3000 : Nat) (((Or.call [] (AB !allB (fun (i_1 : Nat) => h (↑i : Int).toNat i_1 == (0 : Int)) (w (↑i : Int).toNat)) [] (Or.nil.split Or.nil).lit).lit.split Or.nil.lit.lit.lit).split Or.nil) [Item.ir ir13_L1, Item.lend (I i), Item.bend (0 : Nat), Item.ir ir13_T2] (st_imPV n f m w h k r i) = VC.split (decide ((↑i : Int) < (↑m : Int))) (VC.need ((0 : Int) ≤ (↑i : Int) ∧ (↑i : Int).toNat < m) (VC.need ((0 : Int) ≤ (↑i : Int) ∧ (↑i : Int).toNat < k) (VC.split (!r (↑i : Int).toNat) (VC.call (44 : Nat) [AV.p false (PV.sl false (1 : Nat) (w (↑i : Int).toNat) fun (j x : Nat) => PI (h (↑i : Int).toNat j)), AV.cl (45 : Nat) [] []] [] (AB !allB (fun (i_1 : Nat) => h (↑i : Int).toNat i_1 == (0 : Int)) (w (↑i : Int).toNat)) [] (VC.split (!allB (fun (i_1 : Nat) => h (↑i : Int).toNat i_1 == (0 : Int)) (w (↑i : Int).toNat)) (VC.doneP (AV.p true (PV.v (Value.bool false)))) (VC.lend (I i) (St.mk [((1 : Nat), AV.adr (1 : Nat) (0 : Nat)), ((33 : Nat), AV.p false (PV.sl false (1 : Nat) m (RR w h))), ((34 : Nat), AV.p true (PV.v (Value.int IntKind.i64 (↑m : Int)))), ((35 : Nat), AV.p true (PV.v (Value.int IntKind.i64 (IntKind.i64.wrap ((↑i : Int) + (1 : Int)))))), ((36 : Nat), AV.p true (PV.v (Value.bool (decide ((↑i : Int) < (↑m : Int)))))), ((3 : Nat), AV.p true (PV.v (Value.int IntKind.i64 (↑i : Int)))), ((4 : Nat), AV.p false (PV.sl false (1 : Nat) (w (↑i : Int).toNat) fun (j x : Nat) => PI (h (↑i : Int).toNat j))), ((49 : Nat), AV.p true (PV.v (Value.bool !allB (fun (i_1 : Nat) => h (↑i : Int).toNat i_1 == (0 : Int)) (w (↑i : Int).toNat))))] [((1 : Nat), Ob.box [AV.p false (PV.sl false (1 : Nat) n fun (i_1 x : Nat) => PT (f i_1)), AV.p false (PV.sl false (1 : Nat) m (RR w h)), AV.p false (PV.sl false (1 : Nat) k (MK r))])])))) (VC.lend (I i) (St.mk [((1 : Nat), AV.adr (1 : Nat) (0 : Nat)), ((33 : Nat), AV.p false (PV.sl false (1 : Nat) m (RR w h))), ((34 : Nat), AV.p true (PV.v (Value.int IntKind.i64 (↑m : Int)))), ((35 : Nat), AV.p true (PV.v (Value.int IntKind.i64 (IntKind.i64.wrap ((↑i : Int) + (1 : Int)))))), ((36 : Nat), AV.p true (PV.v (Value.bool (decide ((↑i : Int) < (↑m : Int)))))), ((3 : Nat), AV.p true (PV.v (Value.int IntKind.i64 (↑i : Int)))), ((4 : Nat), AV.p false (PV.sl false (1 : Nat) (w (↑i : Int).toNat) fun (j x : Nat) => PI (h (↑i : Int).toNat j))), ((49 : Nat), AV.p true (PV.v (Value.bool false)))] [((1 : Nat), Ob.box [AV.p false (PV.sl false (1 : Nat) n fun (i_1 x : Nat) => PT (f i_1)), AV.p false (PV.sl false (1 : Nat) m (RR w h)), AV.p false (PV.sl false (1 : Nat) k (MK r))])]))))) (VC.doneP (AV.p true (PV.v (Value.bool true)))) := by intros; kernel_rfl
theorem ev_spPV : ∀ (n : Nat) (f : Nat → ByteArray) (m : Nat) (w : Nat → Nat) (h : Nat → Nat → Int) (k : Nat) (r : Nat → Bool), ev G0 res24 [] (3000 : Nat) Or.nil [Item.ir ir24] (start [PD false false false n f m w h k r] []) = VC.loop ir24_L3 [Item.bend (0 : Nat), Item.ir ir24_T4] (St.mk [((0 : Nat), AV.ag [AV.p false (PV.sl false (1 : Nat) n fun (i x : Nat) => PT (f i)), AV.p false (PV.sl false (1 : Nat) m (RR w h)), AV.p false (PV.sl false (1 : Nat) k (MK r))]), ((1 : Nat), AV.adr (1 : Nat) (0 : Nat)), ((2 : Nat), AV.p true (PV.v (Value.bool false))), ((3 : Nat), AV.p true (PV.v (Value.int IntKind.i64 (0 : Int))))] [((1 : Nat), Ob.box [AV.p false (PV.sl false (1 : Nat) n fun (i x : Nat) => PT (f i)), AV.p false (PV.sl false (1 : Nat) m (RR w h)), AV.p false (PV.sl false (1 : Nat) k (MK r))])]) := by intros; kernel_rfl
def st_spPV (n : Nat) (f : Nat → ByteArray) (m : Nat) (w : Nat → Nat) (h : Nat → Nat → Int) (k : Nat) (r : Nat → Bool) (i : Nat) : St := ⟨[(1, .adr 1 0), (3, AI i)], [(1, .box [TL false n f, RL false m w h, ML false k r])]⟩
theorem evr_spPV : ∀ (n : Nat) (f : Nat → ByteArray) (m : Nat) (w : Nat → Nat) (h : Nat → Nat → Int) (k : Nat) (r : Nat → Bool) (I : Nat → St → Prop) (i : Nat), ev G0 res24 [] (3000 : Nat) ((Or.nil.split Or.nil).split (Or.call [] (AB (namesB n f)) [] ((Or.nil.lit.lit.lit.lit.lit.lit.lit.split Or.nil.lit.lit.lit.lit.lit.lit.lit).lit.lit.lit.lit.split Or.nil.lit.lit.lit.lit.lit.lit.lit.lit.lit.lit.lit.lit))) [Item.ir ir24_L3, Item.lend (I i), Item.bend (0 : Nat), Item.ir ir24_T4] (st_spPV n f m w h k r i) = VC.split (decide ((↑i : Int) < (↑m : Int))) (VC.need ((0 : Int) ≤ (↑i : Int) ∧ (↑i : Int).toNat < m) (VC.split ((↑(w (↑i : Int).toNat) : Int) != (↑n : Int)) (VC.doneP (AV.p true (PV.v (Value.bool false)))) (VC.loop ir24_L1 [Item.bend (2 : Nat), Item.bend (1 : Nat), Item.ir ir24_T2, Item.lend (I i), Item.bend (0 : Nat), Item.ir ir24_T4] (St.mk [((1 : Nat), AV.adr (1 : Nat) (0 : Nat)), ((3 : Nat), AV.p true (PV.v (Value.int IntKind.i64 (↑i : Int)))), ((9 : Nat), AV.p true (PV.v (Value.bool (decide ((↑i : Int) < (↑m : Int)))))), ((21 : Nat), AV.p true (PV.v (Value.bool ((↑(w (↑i : Int).toNat) : Int) != (↑n : Int))))), ((4 : Nat), AV.p true (PV.v (Value.int IntKind.i64 (0 : Int))))] [((1 : Nat), Ob.box [AV.p false (PV.sl false (1 : Nat) n fun (i_1 x : Nat) => PT (f i_1)), AV.p false (PV.sl false (1 : Nat) m (RR w h)), AV.p false (PV.sl false (1 : Nat) k (MK r))])])))) (VC.call (58 : Nat) [AV.p false (PV.sl false (1 : Nat) n fun (i_1 x : Nat) => PT (f i_1))] [] (AB (namesB n f)) [] (VC.split (namesB n f) (VC.split (decide ((↑m : Int) ≤ (256 : Int))) (VC.doneP (AV.p true (PV.v (Value.bool ((↑k : Int) == (↑m : Int)))))) (VC.doneP (AV.p true (PV.v (Value.bool false))))) (VC.doneP (AV.p true (PV.v (Value.bool false)))))) := by intros; kernel_rfl
def st_spPV2 (n : Nat) (f : Nat → ByteArray) (m : Nat) (w : Nat → Nat) (h : Nat → Nat → Int) (k : Nat) (r : Nat → Bool) (i j : Nat) : St := ⟨[(1, .adr 1 0), (3, AI i), (4, AI j)], [(1, .box [TL false n f, RL false m w h, ML false k r])]⟩
theorem evr_spPV2 : ∀ (n : Nat) (f : Nat → ByteArray) (m : Nat) (w : Nat → Nat) (h : Nat → Nat → Int) (k : Nat) (r : Nat → Bool) (i : Nat) (I J : Nat → St → Prop) (j : Nat), ev G0 res24 [] (3000 : Nat) ((Or.call [] (AB (inB (h (↑i : Int).toNat (↑j : Int).toNat) (-100000 : Int) (100000 : Int))) [] (Or.nil.lit.lit.lit.lit.lit.lit.lit.lit.lit.lit.split (((Or.nil.split Or.nil).lit.lit.lit.lit.lit.lit.lit.lit.lit.lit.lit.split Or.nil.lit.lit.lit.lit.lit.lit.lit.lit.lit.lit.lit.lit).lit.lit.lit.lit.lit.lit.lit.lit.split Or.nil.lit.lit.lit.lit.lit.lit.lit.lit.lit.lit.lit.lit.lit.lit.lit.lit.lit.lit.lit.lit.lit).lit.lit.lit.lit.lit)).split Or.nil) [Item.ir ir24_L1, Item.lend (J j), Item.bend (2 : Nat), Item.bend (1 : Nat), Item.ir ir24_T2, Item.lend (I i), Item.bend (0 : Nat), Item.ir ir24_T4] (st_spPV2 n f m w h k r i j) = VC.need ((0 : Int) ≤ (↑i : Int) ∧ (↑i : Int).toNat < m) (VC.split (decide ((↑j : Int) < (↑(w (↑i : Int).toNat) : Int))) (VC.need ((0 : Int) ≤ (↑i : Int) ∧ (↑i : Int).toNat < m) (VC.need ((0 : Int) ≤ (↑j : Int) ∧ (↑j : Int).toNat < w (↑i : Int).toNat) (VC.call (57 : Nat) [AV.p true (PV.v (Value.int IntKind.i64 (h (↑i : Int).toNat (↑j : Int).toNat))), AV.p true (PV.v (Value.int IntKind.i64 (-100000 : Int))), AV.p true (PV.v (Value.int IntKind.i64 (100000 : Int)))] [] (AB (inB (h (↑i : Int).toNat (↑j : Int).toNat) (-100000 : Int) (100000 : Int))) [] (VC.split (!inB (h (↑i : Int).toNat (↑j : Int).toNat) (-100000 : Int) (100000 : Int)) (VC.doneP (AV.p true (PV.v (Value.bool false)))) (VC.split (decide ((↑i : Int) < (↑k : Int))) (VC.need ((0 : Int) ≤ (↑i : Int) ∧ (↑i : Int).toNat < k) (VC.split (!r (↑i : Int).toNat) (VC.need ((0 : Int) ≤ (↑i : Int) ∧ (↑i : Int).toNat < m) (VC.need ((0 : Int) ≤ (↑j : Int) ∧ (↑j : Int).toNat < w (↑i : Int).toNat) (VC.split (h (↑i : Int).toNat (↑j : Int).toNat != (0 : Int)) (VC.doneP (AV.p true (PV.v (Value.bool false)))) (VC.lend (J j) (St.mk [((1 : Nat), AV.adr (1 : Nat) (0 : Nat)), ((3 : Nat), AV.p true (PV.v (Value.int IntKind.i64 (↑i : Int)))), ((4 : Nat), AV.p true (PV.v (Value.int IntKind.i64 (IntKind.i64.wrap ((↑j : Int) + (1 : Int)))))), ((29 : Nat), AV.p true (PV.v (Value.bool (decide ((↑j : Int) < (↑(w (↑i : Int).toNat) : Int)))))), ((67 : Nat), AV.p true (PV.v (Value.bool (h (↑i : Int).toNat (↑j : Int).toNat != (0 : Int)))))] [((1 : Nat), Ob.box [AV.p false (PV.sl false (1 : Nat) n fun (i_1 x : Nat) => PT (f i_1)), AV.p false (PV.sl false (1 : Nat) m (RR w h)), AV.p false (PV.sl false (1 : Nat) k (MK r))])]))))) (VC.lend (J j) (St.mk [((1 : Nat), AV.adr (1 : Nat) (0 : Nat)), ((3 : Nat), AV.p true (PV.v (Value.int IntKind.i64 (↑i : Int)))), ((4 : Nat), AV.p true (PV.v (Value.int IntKind.i64 (IntKind.i64.wrap ((↑j : Int) + (1 : Int)))))), ((29 : Nat), AV.p true (PV.v (Value.bool (decide ((↑j : Int) < (↑(w (↑i : Int).toNat) : Int)))))), ((67 : Nat), AV.p true (PV.v (Value.bool false)))] [((1 : Nat), Ob.box [AV.p false (PV.sl false (1 : Nat) n fun (i_1 x : Nat) => PT (f i_1)), AV.p false (PV.sl false (1 : Nat) m (RR w h)), AV.p false (PV.sl false (1 : Nat) k (MK r))])])))) (VC.lend (J j) (St.mk [((1 : Nat), AV.adr (1 : Nat) (0 : Nat)), ((3 : Nat), AV.p true (PV.v (Value.int IntKind.i64 (↑i : Int)))), ((4 : Nat), AV.p true (PV.v (Value.int IntKind.i64 (IntKind.i64.wrap ((↑j : Int) + (1 : Int)))))), ((29 : Nat), AV.p true (PV.v (Value.bool (decide ((↑j : Int) < (↑(w (↑i : Int).toNat) : Int)))))), ((67 : Nat), AV.p true (PV.v (Value.bool false)))] [((1 : Nat), Ob.box [AV.p false (PV.sl false (1 : Nat) n fun (i_1 x : Nat) => PT (f i_1)), AV.p false (PV.sl false (1 : Nat) m (RR w h)), AV.p false (PV.sl false (1 : Nat) k (MK r))])]))))))) (VC.lend (I i) (St.mk [((1 : Nat), AV.adr (1 : Nat) (0 : Nat)), ((3 : Nat), AV.p true (PV.v (Value.int IntKind.i64 (IntKind.i64.wrap ((↑i : Int) + (1 : Int)))))), ((4 : Nat), AV.p true (PV.v (Value.int IntKind.i64 (↑j : Int)))), ((29 : Nat), AV.p true (PV.v (Value.bool (decide ((↑j : Int) < (↑(w (↑i : Int).toNat) : Int))))))] [((1 : Nat), Ob.box [AV.p false (PV.sl false (1 : Nat) n fun (i_1 x : Nat) => PT (f i_1)), AV.p false (PV.sl false (1 : Nat) m (RR w h)), AV.p false (PV.sl false (1 : Nat) k (MK r))])]))) := by intros; kernel_rfl
/-! ### contracts -/
theorem sameM_no {k : Nat} {r r' : Nat → Bool} {i : Nat} (hi : i < k) (h : (r i == r' i) = false) : sameM k r k r' = false := by
  simp only [sameM, allB_no (p := fun i => r i == r' i) hi h, Bool.and_false]
theorem c_sM (nn nn' : Bool) (k : Nat) (r : Nat → Bool) (k' : Nat) (r' : Nat → Bool) (hk : k ≤ 1048576) : PRet Tryd.prog G0 31 [ML nn k r, ML nn' k' r'] (AB (sameM k r k' r')) := by
  refine PRet.by chk31 (ev_sM nn nn' k r k' r') ?_
  simp only [VC.holds_split, VC.holds_need, VC.holds_doneP, VC.holds_done, VC.holds_either, VC.holds_call, VC.holds_callE, VC.holds_lend, VC.holds_stop, VC.holds_fail, decide_eq_true_eq, decide_eq_false_iff_not]
  refine ⟨fun h => ?_, fun h => ?_⟩
  · have : ¬ k = k' := by simp at h; omega
    simp [sameM, this]
  · have hkk : k = k' := by simp at h; omega
    subst hkk
    refine loop_by (st_sM nn nn' k r r') (fun i => i ≤ k ∧ ∀ j, j < i → (r j == r' j) = true) (fun i => k - i) 0 [] [] [] (by simp) ?_ (evr_sM nn nn' k r r') fun i hi => ?_
    · simp [st_sM, hbs, St.lowers, St.lower, stLe, leEnv, leObs, obLe, injB, pinC, AV.leC, AV.leCs, PV.leC, PV.Le_v, St.get, St.obj, look, rho, isNew, keptC, renH, Mode.ok, Mode.isZ, PV.isVal, PV.isNilSl, List.all_nil, List.all_cons, List.any_nil, List.any_cons, List.map_nil, List.map_cons, PV.Le_self]
    · obtain ⟨hi, hall⟩ := hi
      have e1 : IntKind.i64.wrap ((i : Int) + 1) = ((i + 1 : Nat) : Int) := wrap_in (by omega) (by omega)
      simp only [VC.holds_split, VC.holds_need, VC.holds_doneP, VC.holds_done, VC.holds_either, VC.holds_call, VC.holds_callE, VC.holds_lend, VC.holds_stop, VC.holds_fail, decide_eq_true_eq, decide_eq_false_iff_not, Int.toNat_natCast]
      refine ⟨fun h1 => ⟨⟨by omega, by omega⟩, ⟨by omega, by omega⟩, fun h2 => ?_, fun h2 => Again.mk (i + 1) [] [] [] ⟨by omega, fun j hj => ?_⟩ (by omega) ?_⟩, fun h1 => ?_⟩
      · have h3 : (r i == r' i) = false := by simpa using h2
        rw [sameM_no (show i < k by omega) h3]; exact ⟨rfl, trivial⟩
      · by_cases h4 : j = i
        · subst h4; simpa using h2
        · exact hall j (by omega)
      · simp [st_sM, hbs, St.lowers, St.lower, stLe, leEnv, leObs, obLe, injB, pinC, AV.leC, AV.leCs, PV.leC, PV.Le_v, St.get, St.obj, look, rho, isNew, keptC, renH, Mode.ok, Mode.isZ, PV.isVal, PV.isNilSl, List.all_nil, List.all_cons, List.any_nil, List.any_cons, List.map_nil, List.map_cons, PV.Le_self, e1]
      · have : i = k := by omega
        subst this
        have : allB (fun j => r j == r' j) i = true := allB_iff.2 hall
        simp [sameM, this]
theorem cntB_le (r : Nat → Bool) : ∀ k, cntB r k ≤ k
  | 0 => Nat.le_refl _
  | k + 1 => by
    have := cntB_le r k
    simp only [cntB]; split <;> omega
theorem c_re (n : Nat) (f : Nat → ByteArray) (m : Nat) (w : Nat → Nat) (h : Nat → Nat → Int) (k : Nat) (r : Nat → Bool) (hk : k ≤ 1048576) : PRet Tryd.prog G0 34 [PD false false false n f m w h k r] (AI (cntB r k)) := by
  refine PRet.by chk34 (ev_re n f m w h k r) ?_
  refine loop_by (st_re k r) (fun i => i ≤ k) (fun i => k - i) 0 [] [] [] (Nat.zero_le _) ?_ (evr_re k r) fun i hi => ?_
  · simp [st_re, hbs, St.lowers, St.lower, stLe, leEnv, leObs, obLe, injB, pinC, AV.leC, AV.leCs, PV.leC, PV.Le_v, St.get, St.obj, look, rho, isNew, keptC, renH, Mode.ok, Mode.isZ, PV.isVal, PV.isNilSl, List.all_nil, List.all_cons, List.any_nil, List.any_cons, List.map_nil, List.map_cons, PV.Le_self, cntB]
  · have e1 : IntKind.i64.wrap ((i : Int) + 1) = ((i + 1 : Nat) : Int) := wrap_in (by omega) (by omega)
    have hc := cntB_le r i
    have e2 : IntKind.i64.wrap ((cntB r i : Int) + 1) = ((cntB r i + 1 : Nat) : Int) := wrap_in (by omega) (by omega)
    simp only [VC.holds_split, VC.holds_need, VC.holds_doneP, VC.holds_done, VC.holds_either, VC.holds_call, VC.holds_callE, VC.holds_lend, VC.holds_stop, VC.holds_fail, decide_eq_true_eq, decide_eq_false_iff_not, Int.toNat_natCast]
    refine ⟨fun h1 => ⟨⟨by omega, by omega⟩, fun h2 => Again.mk (i + 1) [] [] [] (by omega) (by omega) ?_, fun h2 => Again.mk (i + 1) [] [] [] (by omega) (by omega) ?_⟩, fun h1 => ?_⟩
    · simp [st_re, hbs, St.lowers, St.lower, stLe, leEnv, leObs, obLe, injB, pinC, AV.leC, AV.leCs, PV.leC, PV.Le_v, St.get, St.obj, look, rho, isNew, keptC, renH, Mode.ok, Mode.isZ, PV.isVal, PV.isNilSl, List.all_nil, List.all_cons, List.any_nil, List.any_cons, List.map_nil, List.map_cons, PV.Le_self, e1, e2, cntB, h2]
    · simp [st_re, hbs, St.lowers, St.lower, stLe, leEnv, leObs, obLe, injB, pinC, AV.leC, AV.leCs, PV.leC, PV.Le_v, St.get, St.obj, look, rho, isNew, keptC, renH, Mode.ok, Mode.isZ, PV.isVal, PV.isNilSl, List.all_nil, List.all_cons, List.any_nil, List.any_cons, List.map_nil, List.map_cons, PV.Le_self, e1, e2, cntB, h2]
    · have : i = k := by omega
      subst this
      simp
def zB (w : Nat → Nat) (h : Nat → Nat → Int) (r : Nat → Bool) (i : Nat) : Bool := r i || allB (fun j => h i j == 0) (w i)
def padB (n : Nat) (f : Nat → ByteArray) (m : Nat) (w : Nat → Nat) (h : Nat → Nat → Int) (k : Nat) (r : Nat → Bool) : Bool := namesB n f && decide (m ≤ 256) && decide (k = m) && rowsB n m w h && allB (zB w h r) m
structure PdOk (n : Nat) (f : Nat → ByteArray) (m : Nat) (w : Nat → Nat) (k : Nat) : Prop where
  ta : TaOk n f m w
  hk : k ≤ 1048576
theorem c_imPV (n : Nat) (f : Nat → ByteArray) (m : Nat) (w : Nat → Nat) (h : Nat → Nat → Int) (k : Nat) (r : Nat → Bool) (ok : PdOk n f m w k) : PRet Tryd.prog G0 13 [PD false false false n f m w h k r] (AB (padB n f m w h k r)) := by
  have hm := ok.ta.hm
  refine PRet.by chk13 (ev_imPV n f m w h k r) ?_
  simp only [VC.holds_split, VC.holds_need, VC.holds_doneP, VC.holds_done, VC.holds_either, VC.holds_call, VC.holds_callE, VC.holds_lend, VC.holds_stop, VC.holds_fail, decide_eq_true_eq, decide_eq_false_iff_not]
  refine ⟨c_cols _ _ _ ok.ta.hn ok.ta.hf, fun h1 => ?_, fun h1 => ⟨fun h2 => ?_, fun h2 => ⟨fun h3 => ?_, fun h3 => ⟨c_fit _ _ _ _ _ _ _ ok.ta.hm ok.ta.hw, fun h4 => ?_, fun h4 => ?_⟩⟩⟩⟩
  · simp [padB, (by simpa using h1 : namesB n f = false)]
  · have : ¬ m ≤ 256 := by omega
    simp [padB, this]
  · have : ¬ k = m := by simp at h3; omega
    simp [padB, this]
  · simp [padB, (by simpa using h4 : rowsB n m w h = false)]
  · have hkm : k = m := by simp at h3; omega
    have g1 : namesB n f = true := by simpa using h1
    have g2 : m ≤ 256 := by omega
    have g4 : rowsB n m w h = true := by simpa using h4
    subst hkm
    refine loop_by (st_imPV n f k w h k r) (fun i => i ≤ k ∧ ∀ j, j < i → zB w h r j = true) (fun i => k - i) 0 [] [] [] (by simp) ?_ (evr_imPV n f k w h k r) fun i hi => ?_
    · simp [st_imPV, hbs, St.lowers, St.lower, stLe, leEnv, leObs, obLe, injB, pinC, AV.leC, AV.leCs, PV.leC, PV.Le_v, St.get, St.obj, look, rho, isNew, keptC, renH, Mode.ok, Mode.isZ, PV.isVal, PV.isNilSl, List.all_nil, List.all_cons, List.any_nil, List.any_cons, List.map_nil, List.map_cons, PV.Le_self]
    · obtain ⟨hi, hall⟩ := hi
      have e1 : IntKind.i64.wrap ((i : Int) + 1) = ((i + 1 : Nat) : Int) := wrap_in (by omega) (by omega)
      have up : zB w h r i = true → ∀ j, j < i + 1 → zB w h r j = true := fun hz j hj => by
        by_cases e : j = i
        · subst e; exact hz
        · exact hall j (by omega)
      simp only [VC.holds_split, VC.holds_need, VC.holds_doneP, VC.holds_done, VC.holds_either, VC.holds_call, VC.holds_callE, VC.holds_lend, VC.holds_stop, VC.holds_fail, decide_eq_true_eq, decide_eq_false_iff_not, Int.toNat_natCast]
      refine ⟨fun h5 => ⟨⟨by omega, by omega⟩, ⟨by omega, by omega⟩, fun h6 => ⟨c_cnZ _ _ _ (ok.ta.hw i (by omega)), fun h7 => ?_, fun h7 => Again.mk (i + 1) [] [] [] ⟨by omega, up ?_⟩ (by omega) ?_⟩, fun h6 => Again.mk (i + 1) [] [] [] ⟨by omega, up ?_⟩ (by omega) ?_⟩, fun h5 => ?_⟩
      · have hz : zB w h r i = false := by
          simp only [zB, (by simpa using h6 : r i = false), (by simpa using h7 : allB (fun j => h i j == 0) (w i) = false), Bool.or_self]
        simp [padB, allB_no (show i < k by omega) hz]
      · simp only [zB, (by simpa using h7 : allB (fun j => h i j == 0) (w i) = true), Bool.or_true]
      · simp [st_imPV, hbs, St.lowers, St.lower, stLe, leEnv, leObs, obLe, injB, pinC, AV.leC, AV.leCs, PV.leC, PV.Le_v, St.get, St.obj, look, rho, isNew, keptC, renH, Mode.ok, Mode.isZ, PV.isVal, PV.isNilSl, List.all_nil, List.all_cons, List.any_nil, List.any_cons, List.map_nil, List.map_cons, PV.Le_self, e1]
      · simp only [zB, (by simpa using h6 : r i = true), Bool.true_or]
      · simp [st_imPV, hbs, St.lowers, St.lower, stLe, leEnv, leObs, obLe, injB, pinC, AV.leC, AV.leCs, PV.leC, PV.Le_v, St.get, St.obj, look, rho, isNew, keptC, renH, Mode.ok, Mode.isZ, PV.isVal, PV.isNilSl, List.all_nil, List.all_cons, List.any_nil, List.any_cons, List.map_nil, List.map_cons, PV.Le_self, e1]
      · have : i = k := by omega
        subst this
        have : allB (zB w h r) i = true := allB_iff.2 hall
        simp [padB, this, g1, g2, g4]
/-- A row as the model looks at it. -/
def srB (n : Nat) (w : Nat → Nat) (h : Nat → Nat → Int) (k : Nat) (r : Nat → Bool) (i : Nat) : Bool := decide (w i = n) && allB (fun j => valB (h i j) && !(decide (i < k) && !r i && h i j != 0)) (w i)
theorem padB_eq (n : Nat) (f : Nat → ByteArray) (m : Nat) (w : Nat → Nat) (h : Nat → Nat → Int) (k : Nat) (r : Nat → Bool) : padB n f m w h k r = (allB (srB n w h k r) m && namesB n f && decide (m ≤ 256) && decide (k = m)) := by
  by_cases hk : k = m
  · subst hk
    have : (rowsB n k w h && allB (zB w h r) k) = allB (srB n w h k r) k := by
      rw [Bool.eq_iff_iff, Bool.and_eq_true]
      simp only [rowsB, allB_iff, rowB, zB, srB, Bool.and_eq_true, Bool.or_eq_true]
      constructor
      · intro ⟨a, b⟩ i hi
        refine ⟨(a i hi).1, fun j hj => ⟨(a i hi).2 j hj, ?_⟩⟩
        rcases b i hi with c | c
        · simp [c]
        · have := c j hj
          simp [beq_iff_eq.1 this]
      · intro a
        refine ⟨fun i hi => ⟨(a i hi).1, fun j hj => ((a i hi).2 j hj).1⟩, fun i hi => ?_⟩
        cases hr : r i with
        | true => exact .inl rfl
        | false =>
          refine .inr fun j hj => ?_
          have := ((a i hi).2 j hj).2
          simpa [hr, hi] using this
    simp only [padB]
    rw [← this]
    cases namesB n f <;> cases rowsB n k w h <;> cases allB (zB w h r) k <;> simp
  · simp [padB, hk]
theorem c_spPV (n : Nat) (f : Nat → ByteArray) (m : Nat) (w : Nat → Nat) (h : Nat → Nat → Int) (k : Nat) (r : Nat → Bool) (ok : PdOk n f m w k) : PRet Tryd.prog G0 24 [PD false false false n f m w h k r] (AB (padB n f m w h k r)) := by
  have hm := ok.ta.hm
  rw [padB_eq]
  refine PRet.by chk24 (ev_spPV n f m w h k r) ?_
  refine loop_by (st_spPV n f m w h k r) (fun i => i ≤ m ∧ ∀ j, j < i → srB n w h k r j = true) (fun i => m - i) 0 [] [] [] (by simp) ?_ (evr_spPV n f m w h k r) fun i hi => ?_
  · simp [st_spPV, hbs, St.lowers, St.lower, stLe, leEnv, leObs, obLe, injB, pinC, AV.leC, AV.leCs, PV.leC, PV.Le_v, St.get, St.obj, look, rho, isNew, keptC, renH, Mode.ok, Mode.isZ, PV.isVal, PV.isNilSl, List.all_nil, List.all_cons, List.any_nil, List.any_cons, List.map_nil, List.map_cons, PV.Le_self]
  · obtain ⟨hi, hall⟩ := hi
    have e1 : IntKind.i64.wrap ((i : Int) + 1) = ((i + 1 : Nat) : Int) := wrap_in (by omega) (by omega)
    simp only [VC.holds_split, VC.holds_need, VC.holds_doneP, VC.holds_done, VC.holds_either, VC.holds_call, VC.holds_callE, VC.holds_lend, VC.holds_stop, VC.holds_fail, decide_eq_true_eq, decide_eq_false_iff_not, Int.toNat_natCast]
    refine ⟨fun h1 => ⟨⟨by omega, by omega⟩, fun h2 => ?_, fun h2 => ?_⟩, fun h1 => ⟨c_spN _ _ _ ok.ta.hn ok.ta.hf, fun h2 => ⟨fun h3 => ?_, fun h3 => ?_⟩, fun h2 => ?_⟩⟩
    · have : ¬ w i = n := by simp at h2; omega
      have hz : srB n w h k r i = false := by simp [srB, this]
      simp [allB_no (show i < m by omega) hz]
    · have hwn : w i = n := by simp at h2; omega
      have hwi := ok.ta.hw i (by omega)
      refine loop_by (st_spPV2 n f m w h k r i) (fun j => j ≤ w i ∧ ∀ l, l < j → (valB (h i l) && !(decide (i < k) && !r i && h i l != 0)) = true) (fun j => w i - j) 0 [] [] [] (by simp) ?_ (fun J j => evr_spPV2 n f m w h k r i _ J j) fun j hj => ?_
      · simp [st_spPV2, hbs, St.lowers, St.lower, stLe, leEnv, leObs, obLe, injB, pinC, AV.leC, AV.leCs, PV.leC, PV.Le_v, St.get, St.obj, look, rho, isNew, keptC, renH, Mode.ok, Mode.isZ, PV.isVal, PV.isNilSl, List.all_nil, List.all_cons, List.any_nil, List.any_cons, List.map_nil, List.map_cons, PV.Le_self]
      · obtain ⟨hj, hrow⟩ := hj
        have e2 : IntKind.i64.wrap ((j : Int) + 1) = ((j + 1 : Nat) : Int) := wrap_in (by omega) (by omega)
        have bad : j < w i → (valB (h i j) && !(decide (i < k) && !r i && h i j != 0)) = false → srB n w h k r i = false := fun a b => by
          simp only [srB, allB_no (p := fun j => valB (h i j) && !(decide (i < k) && !r i && h i j != 0)) a b, Bool.and_false]
        have up : (valB (h i j) && !(decide (i < k) && !r i && h i j != 0)) = true → ∀ l, l < j + 1 → (valB (h i l) && !(decide (i < k) && !r i && h i l != 0)) = true := fun a l hl => by
          by_cases e : l = j
          · subst e; exact a
          · exact hrow l (by omega)
        simp only [VC.holds_split, VC.holds_need, VC.holds_doneP, VC.holds_done, VC.holds_either, VC.holds_call, VC.holds_callE, VC.holds_lend, VC.holds_stop, VC.holds_fail, decide_eq_true_eq, decide_eq_false_iff_not, Int.toNat_natCast]
        refine ⟨⟨by omega, by omega⟩, fun h3 => ⟨⟨by omega, by omega⟩, ⟨by omega, by omega⟩, c_l1In _ _ _, fun h4 => ?_, fun h4 => ⟨fun h5 => ⟨⟨by omega, by omega⟩, fun h6 => ⟨⟨by omega, by omega⟩, ⟨by omega, by omega⟩, fun h7 => ?_, fun h7 => Again.mk (j + 1) [] [] [] ⟨by omega, up ?_⟩ (by omega) ?_⟩, fun h6 => Again.mk (j + 1) [] [] [] ⟨by omega, up ?_⟩ (by omega) ?_⟩, fun h5 => Again.mk (j + 1) [] [] [] ⟨by omega, up ?_⟩ (by omega) ?_⟩⟩, fun h3 => Again.mk (i + 1) [] [] [] ⟨by omega, fun l hl => ?_⟩ (by omega) ?_⟩
        · have hz := bad (by omega) (by simp only [valB, (by simpa using h4 : inB (h i j) (-100000) 100000 = false), Bool.false_and])
          simp [allB_no (show i < m by omega) hz]
        · have hz := bad (by omega) (by simp only [(by omega : i < k), decide_true, h6, h7, Bool.and_self, Bool.not_true, Bool.and_false])
          simp [allB_no (show i < m by omega) hz]
        · simp only [valB, (by simpa using h4 : inB (h i j) (-100000) 100000 = true), h7, Bool.and_false, Bool.not_false, Bool.and_self]
        · simp [st_spPV2, hbs, St.lowers, St.lower, stLe, leEnv, leObs, obLe, injB, pinC, AV.leC, AV.leCs, PV.leC, PV.Le_v, St.get, St.obj, look, rho, isNew, keptC, renH, Mode.ok, Mode.isZ, PV.isVal, PV.isNilSl, List.all_nil, List.all_cons, List.any_nil, List.any_cons, List.map_nil, List.map_cons, PV.Le_self, e2]
        · simp only [valB, (by simpa using h4 : inB (h i j) (-100000) 100000 = true), h6, Bool.and_false, Bool.false_and, Bool.not_false, Bool.and_self]
        · simp [st_spPV2, hbs, St.lowers, St.lower, stLe, leEnv, leObs, obLe, injB, pinC, AV.leC, AV.leCs, PV.leC, PV.Le_v, St.get, St.obj, look, rho, isNew, keptC, renH, Mode.ok, Mode.isZ, PV.isVal, PV.isNilSl, List.all_nil, List.all_cons, List.any_nil, List.any_cons, List.map_nil, List.map_cons, PV.Le_self, e2]
        · have h5' : ¬ i < k := by omega
          simp only [valB, (by simpa using h4 : inB (h i j) (-100000) 100000 = true), h5', decide_false, Bool.false_and, Bool.not_false, Bool.and_self]
        · simp [st_spPV2, hbs, St.lowers, St.lower, stLe, leEnv, leObs, obLe, injB, pinC, AV.leC, AV.leCs, PV.leC, PV.Le_v, St.get, St.obj, look, rho, isNew, keptC, renH, Mode.ok, Mode.isZ, PV.isVal, PV.isNilSl, List.all_nil, List.all_cons, List.any_nil, List.any_cons, List.map_nil, List.map_cons, PV.Le_self, e2]
        · by_cases e : l = i
          · subst e
            have : j = w l := by omega
            subst this
            simp only [srB, hwn, decide_true, Bool.true_and]
            rw [hwn] at hrow
            exact allB_iff.2 hrow
          · exact hall l (by omega)
        · simp [st_spPV, hbs, St.lowers, St.lower, stLe, leEnv, leObs, obLe, injB, pinC, AV.leC, AV.leCs, PV.leC, PV.Le_v, St.get, St.obj, look, rho, isNew, keptC, renH, Mode.ok, Mode.isZ, PV.isVal, PV.isNilSl, List.all_nil, List.all_cons, List.any_nil, List.any_cons, List.map_nil, List.map_cons, PV.Le_self, e1]
    · have : i = m := by omega
      subst this
      have g : allB (srB n w h k r) i = true := allB_iff.2 hall
      have e9 : ((k : Int) == (i : Int)) = decide (k = i) := by
        by_cases e : k = i
        · simp [e]
        · have : ¬ (k : Int) = i := by omega
          simp [e, this]
      simp [g, h2, (by omega : i ≤ 256), e9]
    · have : ¬ m ≤ 256 := by omega
      simp [this]
    · simp [h2]
theorem allV1 {g : Nat → Nat → PV} (h : (g 0 0).isV = true) : allV 1 1 g := fun i j hi hj => by
  obtain rfl : i = 0 := by omega
  obtain rfl : j = 0 := by omega
  exact h
theorem allOne1 {g : Nat → Nat → PV} (h : (g 0 0).one = true) : allOne 1 1 g := fun i j hi hj => by
  obtain rfl : i = 0 := by omega
  obtain rfl : j = 0 := by omega
  exact h
theorem MK_le {r r' : Nat → Bool} {i : Nat} (h : r i = r' i) : PV.Le (MK r i 0) (MK r' i 0) := by simp only [MK, h]; exact .refl _
theorem MK_le' {b : Bool} {r : Nat → Bool} {i : Nat} (h : b = r i) : PV.Le (.v (.bool b)) (MK r i 0) := by simp only [MK, h]; exact .refl _
end Go.Gw
