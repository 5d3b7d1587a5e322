/- Catalogs: measured, copied, compared, written over; with no condition. -/
import Derived.Test.YtopnhnnfobbocaaDoorClone
import Derived.KernelRfl
namespace Go.Gw
open Go Go.Proofs
set_option linter.unusedSimpArgs false
set_option linter.unusedVariables false
set_option maxRecDepth 100000
def ir70 : Ir :=
  (.seq
  (.reg [] [o 2 (.box 3 (tt 0)),
    o 4 (.mov (ci 0))])
  (.seq
  (.reg [5, 6, 7, 8, 9] [o 5 (.mov (tt 1)),
    o 6 (.fadr 0 (tt 2)),
    o 7 (.load false 1 (tt 6)),
    o 8 (.lenS (tt 7)),
    o 9 (.bin .sub (tt 5) (tt 8)),
    o 1 (.mov (tt 9))])
  (.seq
  (.seq
  (.reg [10] [o 10 (.mov (tt 1)),
    o 11 (.bin .lss (tt 10) (ci 0))])
  (.cond (tt 11)
   (.seq
   (.reg [] [o 4 (.mov (ci (-1)))])
   .ret)
   .skip))
  (.seq
  (.reg [12, 13, 14, 15] [o 12 (.fadr 1 (tt 2)),
    o 13 (.load true 2 (tt 12)),
    o 14 (.mov (tt 1)),
    o 15 (.call 38 [(tt 13), (tt 14)]),
    o 1 (.mov (tt 15))])
  (.seq
  (.seq
  (.reg [16] [o 16 (.mov (tt 1)),
    o 17 (.bin .lss (tt 16) (ci 0))])
  (.cond (tt 17)
   (.seq
   (.reg [] [o 4 (.mov (ci (-1)))])
   .ret)
   .skip))
  (.seq
  (.reg [18] [o 18 (.mov (tt 1)),
    o 4 (.mov (tt 18))])
  .ret))))))
def keep70 : List Nat := [0, 1, 2, 4, 11, 17]
def res70 : List RI := [.tmp 4]
theorem chk70 : chk Tryd.prog 70 2 keep70 = some (ir70, res70) := by kernel_rfl
def ir20_L1 : Ir :=
  (.seq
  (.seq
  (.reg [12, 13, 14] [o 12 (.mov (tt 5)),
    o 13 (.mov (tt 0)),
    o 14 (.len (tt 13)),
    o 15 (.bin .lss (tt 12) (tt 14))])
  (.cond (tt 15)
   .skip
   (.exit 0)))
  (.seq
  (.block 1
   (.seq
   (.reg [18, 19, 20, 21, 22, 23] [o 18 (.mov (tt 0)),
     o 19 (.mov (tt 5)),
     o 20 (.idx 3 (tt 18) (tt 19)),
     o 21 (.load true 3 (tt 20)),
     o 22 (.mov (tt 1)),
     o 23 (.call 70 [(tt 21), (tt 22)]),
     o 1 (.mov (tt 23))])
   (.seq
   (.reg [24] [o 24 (.mov (tt 1)),
     o 25 (.bin .lss (tt 24) (ci 0))])
   (.cond (tt 25)
    (.seq
    (.reg [] [o 4 (.mov (ci (-1)))])
    .ret)
    .skip))))
  (.reg [16, 17] [o 16 (.mov (tt 5)),
    o 17 (.bin .add (tt 16) (ci 1)),
    o 5 (.mov (tt 17))])))
def ir20_T2 : Ir :=
  (.seq
  (.reg [26] [o 26 (.mov (tt 1)),
    o 4 (.mov (tt 26))])
  .ret)
def ir20 : Ir :=
  (.seq
  (.reg [] [o 4 (.mov (ci 0))])
  (.seq
  (.reg [6, 7, 8, 9] [o 6 (.mov (tt 1)),
    o 7 (.mov (tt 0)),
    o 8 (.len (tt 7)),
    o 9 (.bin .sub (tt 6) (tt 8)),
    o 1 (.mov (tt 9))])
  (.seq
  (.seq
  (.reg [10] [o 10 (.mov (tt 1)),
    o 11 (.bin .lss (tt 10) (ci 0))])
  (.cond (tt 11)
   (.seq
   (.reg [] [o 4 (.mov (ci (-1)))])
   .ret)
   .skip))
  (.seq
  (.seq
  (.reg [] [o 5 (.mov (ci 0))])
  (.block 0
   (.loop ir20_L1)))
  ir20_T2))))
def keep20 : List Nat := [0, 1, 4, 5, 11, 15, 25]
def res20 : List RI := [.tmp 4]
theorem chk20 : chk Tryd.prog 20 2 keep20 = some (ir20, res20) := by kernel_rfl
def ir73 : Ir :=
  (.seq
  (.reg [] [o 1 (.box 3 (tt 0)),
    o 2 (.alloc [(.string ⟨#[]⟩), (.slice none 0 0), (.slice none 0 0)])])
  (.seq
  (.reg [] [o 3 (.alloc [(.string ⟨#[]⟩), (.slice none 0 0), (.slice none 0 0)])])
  (.seq
  (.reg [4, 5, 6] [o 4 (.fadr 0 (tt 1)),
    o 5 (.load false 1 (tt 4)),
    o 6 (.fadr 0 (tt 3)),
    on (.store 1 (tt 6) (tt 5))])
  (.seq
  (.reg [7, 8, 9, 10] [o 7 (.fadr 1 (tt 1)),
    o 8 (.load true 2 (tt 7)),
    o 9 (.call 39 [(tt 8)]),
    o 10 (.fadr 1 (tt 3)),
    on (.store 2 (tt 10) (tt 9))])
  (.seq
  (.reg [11] [o 11 (.load true 3 (tt 3)),
    on (.store 3 (tt 2) (tt 11))])
  .ret)))))
def keep73 : List Nat := [0, 1, 2, 3]
def res73 : List RI := [.cell true 3 2]
theorem chk73 : chk Tryd.prog 73 1 keep73 = some (ir73, res73) := by kernel_rfl
def ir22_L1 : Ir :=
  (.seq
  (.seq
  (.reg [8, 9, 10] [o 8 (.mov (tt 4)),
    o 9 (.mov (tt 0)),
    o 10 (.len (tt 9)),
    o 11 (.bin .lss (tt 8) (tt 10))])
  (.cond (tt 11)
   .skip
   (.exit 0)))
  (.seq
  (.block 1
   (.reg [14, 15, 16, 17, 18, 19, 20, 21] [o 14 (.mov (tt 3)),
     o 15 (.mov (tt 4)),
     o 16 (.mov (tt 0)),
     o 17 (.mov (tt 4)),
     o 18 (.idx 3 (tt 16) (tt 17)),
     o 19 (.load true 3 (tt 18)),
     o 20 (.call 73 [(tt 19)]),
     o 21 (.idx 3 (tt 14) (tt 15)),
     on (.store 3 (tt 21) (tt 20))]))
  (.reg [12, 13] [o 12 (.mov (tt 4)),
    o 13 (.bin .add (tt 12) (ci 1)),
    o 4 (.mov (tt 13))])))
def ir22_T2 : Ir :=
  (.seq
  (.reg [22] [o 22 (.mov (tt 3)),
    o 2 (.mov (tt 22))])
  .ret)
def ir22 : Ir :=
  (.seq
  (.reg [] [o 2 (.mov (.const (.slice none 0 0)))])
  (.seq
  (.reg [5, 6, 7] [o 5 (.mov (tt 0)),
    o 6 (.len (tt 5)),
    o 7 (.mkSlc 3 64 [(.string ⟨#[]⟩), (.slice none 0 0), (.slice none 0 0)] (tt 6) (tt 6)),
    o 3 (.mov (tt 7))])
  (.seq
  (.seq
  (.reg [] [o 4 (.mov (ci 0))])
  (.block 0
   (.loop ir22_L1)))
  ir22_T2)))
def keep22 : List Nat := [0, 2, 3, 4, 11]
def res22 : List RI := [.tmp 2]
theorem chk22 : chk Tryd.prog 22 1 keep22 = some (ir22, res22) := by kernel_rfl
def ir79 : Ir :=
  (.seq
  (.reg [] [o 2 (.box 3 (tt 0)),
    o 3 (.box 3 (tt 1)),
    o 4 (.mov (cb false))])
  (.seq
  (.seq
  (.reg [5, 6, 7, 8] [o 5 (.fadr 0 (tt 2)),
    o 6 (.load false 1 (tt 5)),
    o 7 (.fadr 0 (tt 3)),
    o 8 (.load false 1 (tt 7)),
    o 9 (.bin .neq (tt 6) (tt 8))])
  (.cond (tt 9)
   (.seq
   (.reg [] [o 4 (.mov (cb false))])
   .ret)
   .skip))
  (.seq
  (.seq
  (.reg [10, 11, 12, 13, 14] [o 10 (.fadr 1 (tt 2)),
    o 11 (.load true 2 (tt 10)),
    o 12 (.fadr 1 (tt 3)),
    o 13 (.load true 2 (tt 12)),
    o 14 (.call 24 [(tt 11), (tt 13)]),
    o 15 (.un .not (tt 14))])
  (.cond (tt 15)
   (.seq
   (.reg [] [o 4 (.mov (cb false))])
   .ret)
   .skip))
  (.seq
  (.reg [] [o 4 (.mov (cb true))])
  .ret))))
def keep79 : List Nat := [0, 1, 2, 3, 4, 9, 15]
def res79 : List RI := [.tmp 4]
theorem chk79 : chk Tryd.prog 79 2 keep79 = some (ir79, res79) := by kernel_rfl
def ir25_L1 : Ir :=
  (.seq
  (.seq
  (.reg [11, 12, 13] [o 11 (.mov (tt 5)),
    o 12 (.mov (tt 0)),
    o 13 (.len (tt 12)),
    o 14 (.bin .lss (tt 11) (tt 13))])
  (.cond (tt 14)
   .skip
   (.exit 0)))
  (.seq
  (.block 1
   (.seq
   (.dreg [17, 18, 19, 20, 21, 22, 23, 24, 25] [0, 0, 3, 7, 0, 0, 48, 112, 255, 511] [(3, 1020), (3, 2020), (3, 3020), (7, 1024), (7, 2024), (7, 3024), (8, 1025), (8, 2025), (8, 3025), (8, 4025), (8, 5025), (8, 6025), (8, 7025), (8, 8025)] [o 17 (.mov (tt 0)),
     o 18 (.mov (tt 5)),
     o 19 (.idx 3 (tt 17) (tt 18)),
     o 20 (.load true 3 (tt 19)),
     o 21 (.mov (tt 1)),
     o 22 (.mov (tt 5)),
     o 23 (.idx 3 (tt 21) (tt 22)),
     o 24 (.load true 3 (tt 23)),
     o 25 (.call 79 [(tt 20), (tt 24)]),
     o 26 (.un .not (tt 25))])
   (.cond (tt 26)
    (.seq
    (.reg [] [o 4 (.mov (cb false))])
    .ret)
    .skip)))
  (.reg [15, 16] [o 15 (.mov (tt 5)),
    o 16 (.bin .add (tt 15) (ci 1)),
    o 5 (.mov (tt 16))])))
def ir25_T2 : Ir :=
  (.seq
  (.reg [] [o 4 (.mov (cb true))])
  .ret)
def ir25 : Ir :=
  (.seq
  (.reg [] [o 4 (.mov (cb false))])
  (.seq
  (.seq
  (.reg [6, 7, 8, 9] [o 6 (.mov (tt 0)),
    o 7 (.len (tt 6)),
    o 8 (.mov (tt 1)),
    o 9 (.len (tt 8)),
    o 10 (.bin .neq (tt 7) (tt 9))])
  (.cond (tt 10)
   (.seq
   (.reg [] [o 4 (.mov (cb false))])
   .ret)
   .skip))
  (.seq
  (.seq
  (.reg [] [o 5 (.mov (ci 0))])
  (.block 0
   (.loop ir25_L1)))
  ir25_T2)))
def keep25 : List Nat := [0, 1, 4, 5, 10, 14, 26]
def res25 : List RI := [.tmp 4]
theorem chk25 : chk Tryd.prog 25 2 keep25 = some (ir25, res25) := by kernel_rfl
def ir26_L1 : Ir :=
  (.seq
  (.seq
  (.reg [6, 7, 8] [o 6 (.mov (tt 5)),
    o 7 (.mov (tt 0)),
    o 8 (.len (tt 7)),
    o 9 (.bin .lss (tt 6) (tt 8))])
  (.cond (tt 9)
   .skip
   (.exit 0)))
  (.seq
  (.block 1
   (.seq
   (.reg [12, 13, 14, 15, 16, 17] [o 12 (.mov (tt 0)),
     o 13 (.mov (tt 5)),
     o 14 (.mov (tt 1)),
     o 15 (.call 80 [(tt 14)]),
     o 16 (.idx 3 (tt 12) (tt 13)),
     o 17 (.fadr 0 (tt 16)),
     on (.store 1 (tt 17) (tt 15))])
   (.seq
   (.reg [18, 19] [o 18 (.mov (tt 1)),
     o 19 (.bin .add (tt 18) (ci 1)),
     o 1 (.mov (tt 19))])
   (.seq
   (.reg [20, 21, 22, 23, 24, 25, 26, 27] [o 20 (.mov (tt 0)),
     o 21 (.mov (tt 5)),
     o 22 (.idx 3 (tt 20) (tt 21)),
     o 23 (.fadr 1 (tt 22)),
     o 24 (.fadr 0 (tt 23)),
     o 25 (.load false 1 (tt 24)),
     o 26 (.mov (tt 1)),
     o 27 (.call 81 [(tt 25), (tt 26)]),
     o 1 (.mov (tt 27))])
   (.reg [28, 29, 30, 31, 32, 33, 34, 35] [o 28 (.mov (tt 0)),
     o 29 (.mov (tt 5)),
     o 30 (.idx 3 (tt 28) (tt 29)),
     o 31 (.fadr 1 (tt 30)),
     o 32 (.fadr 1 (tt 31)),
     o 33 (.load false 1 (tt 32)),
     o 34 (.mov (tt 1)),
     o 35 (.call 82 [(tt 33), (tt 34)]),
     o 1 (.mov (tt 35))])))))
  (.reg [10, 11] [o 10 (.mov (tt 5)),
    o 11 (.bin .add (tt 10) (ci 1)),
    o 5 (.mov (tt 11))])))
def ir26_T2 : Ir :=
  (.seq
  (.reg [36] [o 36 (.mov (tt 1)),
    o 4 (.mov (tt 36))])
  .ret)
def ir26 : Ir :=
  (.seq
  (.reg [] [o 4 (.mov (ci 0))])
  (.seq
  (.seq
  (.reg [] [o 5 (.mov (ci 0))])
  (.block 0
   (.loop ir26_L1)))
  ir26_T2))
def keep26 : List Nat := [0, 1, 4, 5, 9]
def res26 : List RI := [.tmp 4]
theorem chk26 : chk Tryd.prog 26 2 keep26 = some (ir26, res26) := by kernel_rfl
def ir141 : Ir :=
  (.seq
  (.reg [] [o 2 (.box 3 (tt 0)),
    o 3 (.mov (cb false))])
  (.seq
  (.reg [4, 5, 6, 7] [o 4 (.fadr 0 (tt 2)),
    o 5 (.load false 1 (tt 4)),
    o 6 (.load false 1 (tt 1)),
    o 7 (.bin .eql (tt 5) (tt 6)),
    o 3 (.mov (tt 7))])
  .ret))
def keep141 : List Nat := [0, 1, 2, 3]
def res141 : List RI := [.tmp 3]
theorem chk141 : chk Tryd.prog 141 2 keep141 = some (ir141, res141) := by kernel_rfl
def ir140_L1 : Ir :=
  (.seq
  (.reg [] [o 9 (.bin .lss (tt 8) (tt 7))])
  (.seq
  (.cond (tt 9)
   .skip
   (.exit 0))
  (.seq
  (.block 1
   (.seq
   (.reg [10] [o 10 (.mov (tt 8)),
     o 5 (.mov (tt 10))])
   (.seq
   (.reg [11, 12, 13, 14, 15] [o 11 (.mov (tt 1)),
     o 12 (.mov (tt 0)),
     o 13 (.mov (tt 5)),
     o 14 (.idx 3 (tt 12) (tt 13)),
     o 15 (.load true 3 (tt 14)),
     o 16 (.callv (tt 11) [(tt 15)])])
   (.cond (tt 16)
    (.seq
    (.reg [17] [o 17 (.mov (tt 5)),
      o 4 (.mov (tt 17))])
    .ret)
    .skip))))
  (.reg [18] [o 18 (.bin .add (tt 8) (ci 1)),
    o 8 (.mov (tt 18))]))))
def ir140_T2 : Ir :=
  (.seq
  (.reg [] [o 4 (.mov (ci (-1)))])
  .ret)
def ir140 : Ir :=
  (.seq
  (.reg [] [o 4 (.mov (ci 0))])
  (.seq
  (.seq
  (.reg [6] [o 6 (.mov (tt 0)),
    o 7 (.len (tt 6)),
    o 8 (.mov (ci 0))])
  (.block 0
   (.loop ir140_L1)))
  ir140_T2))
def keep140 : List Nat := [0, 1, 4, 5, 7, 8, 9, 16]
def res140 : List RI := [.tmp 4]
theorem chk140 : chk Tryd.prog 140 2 keep140 = some (ir140, res140) := by kernel_rfl
def ir74 : Ir :=
  (.seq
  (.reg [] [o 3 (.box 1 (tt 1)),
    o 4 (.mov (ci 0))])
  (.seq
  (.reg [5, 6, 7] [o 5 (.mov (tt 0)),
    o 6 (.mkFn 141 [] [(tt 3)]),
    o 7 (.call 140 [(tt 5), (tt 6)]),
    o 4 (.mov (tt 7))])
  .ret))
def keep74 : List Nat := [0, 1, 3, 4]
def res74 : List RI := [.tmp 4]
theorem chk74 : chk Tryd.prog 74 2 keep74 = some (ir74, res74) := by kernel_rfl

/-- Tables with names. -/
structure Ct where
  nm : Nat → ByteArray
  n : Nat → Nat
  f : Nat → Nat → ByteArray
  m : Nat → Nat
  w : Nat → Nat → Nat
  h : Nat → Nat → Nat → Int
def NR (c : Ct) : Nat → Nat → PV := fun i j => [PT (c.nm i), .sl false 1 (c.n i) (TR (c.f i)), .sl false 1 (c.m i) (RR (c.w i) (c.h i))].getD j (.v undef)
abbrev NL (nn : Bool) (N : Nat) (c : Ct) : AV := .p false (.sl nn 3 N (NR c))
abbrev NA (s : ByteArray) (n : Nat) (f : Nat → ByteArray) (m : Nat) (w : Nat → Nat) (h : Nat → Nat → Int) : AV := .ag [AT s, TL false n f, RL false m w h]
def in_szN (s : ByteArray) (n : Nat) (f : Nat → ByteArray) (m : Nat) (w : Nat → Nat) (h : Nat → Nat → Int) (l : Int) := (G0, res70, ([] : List (Nat × Ob)), [Item.ir ir70], start [NA s n f m w h, AI l] [])
theorem ev_szN : ∀ (s : ByteArray) (n : Nat) (f : Nat → ByteArray) (m : Nat) (w : Nat → Nat) (h : Nat → Nat → Int) (l : Int),
  ev G0 res70 [] (3000 : Nat)
      (Or.nil.split
        (Or.callE [] Int
          (fun (r : Int) =>
            r = (-1 : Int) ∨ (0 : Int) ≤ r ∧ r + (↑(tabSz n f m w) : Int) = IntKind.i64.wrap (l - (↑s.size : Int)))
          (fun (r : Int) => AI r) (fun (x : Int) => []) fun (r : Int) => Or.nil.split Or.nil))
      [Item.ir ir70] (start [NA s n f m w h, AI l] []) =
    VC.split (decide (IntKind.i64.wrap (l - (↑s.size : Int)) < (0 : Int)))
      (VC.doneP (AV.p true (PV.v (Value.int IntKind.i64 (-1 : Int)))))
      (VC.callE Int (38 : Nat)
        [AV.ag
            [AV.p false (PV.sl false (1 : Nat) n fun (i x : Nat) => PT (f i)),
              AV.p false (PV.sl false (1 : Nat) m (RR w h))],
          AV.p true (PV.v (Value.int IntKind.i64 (IntKind.i64.wrap (l - (↑s.size : Int)))))]
        []
        (fun (r : Int) =>
          r = (-1 : Int) ∨ (0 : Int) ≤ r ∧ r + (↑(tabSz n f m w) : Int) = IntKind.i64.wrap (l - (↑s.size : Int)))
        (fun (r : Int) => AI r) (fun (x : Int) => []) fun (r : Int) =>
        VC.split (decide (r < (0 : Int))) (VC.doneP (AV.p true (PV.v (Value.int IntKind.i64 (-1 : Int)))))
          (VC.doneP (AV.p true (PV.v (Value.int IntKind.i64 r))))) := by
  intros; kernel_rfl
def in_szC (nn : Bool) (N : Nat) (c : Ct) (l : Int) := (G0, res20, ([] : List (Nat × Ob)), [Item.ir ir20], start [NL nn N c, AI l] [])
theorem ev_szC : ∀ (nn : Bool) (N : Nat) (c : Ct) (l : Int),
  ev G0 res20 [] (3000 : Nat) (Or.nil.split Or.nil) [Item.ir ir20] (start [NL nn N c, AI l] []) =
    VC.split (decide (IntKind.i64.wrap (l - (↑N : Int)) < (0 : Int)))
      (VC.doneP (AV.p true (PV.v (Value.int IntKind.i64 (-1 : Int)))))
      (VC.loop ir20_L1 [Item.bend (0 : Nat), Item.ir ir20_T2]
        (St.mk
          [((0 : Nat), AV.p false (PV.sl nn (3 : Nat) N (NR c))),
            ((1 : Nat), AV.p true (PV.v (Value.int IntKind.i64 (IntKind.i64.wrap (l - (↑N : Int)))))),
            ((4 : Nat), AV.p true (PV.v (Value.int IntKind.i64 (0 : Int)))),
            ((11 : Nat), AV.p true (PV.v (Value.bool (decide (IntKind.i64.wrap (l - (↑N : Int)) < (0 : Int)))))),
            ((5 : Nat), AV.p true (PV.v (Value.int IntKind.i64 (0 : Int))))]
          [])) := by
  intros; kernel_rfl
def in_toN (s : ByteArray) (n : Nat) (f : Nat → ByteArray) (m : Nat) (w : Nat → Nat) (h : Nat → Nat → Int) := (G0, res73, ([] : List (Nat × Ob)), [Item.ir ir73], start [NA s n f m w h] [])
theorem ev_toN : ∀ (s : ByteArray) (n : Nat) (f : Nat → ByteArray) (m : Nat) (w : Nat → Nat) (h : Nat → Nat → Int),
  ev G0 res73 [] (3000 : Nat) (Or.call [] taR (taH n f m w h) Or.nil) [Item.ir ir73] (start [NA s n f m w h] []) =
    VC.call (39 : Nat)
      [AV.ag
          [AV.p false (PV.sl false (1 : Nat) n fun (i x : Nat) => PT (f i)),
            AV.p false (PV.sl false (1 : Nat) m (RR w h))]]
      [] taR (taH n f m w h)
      (VC.done
        (St.mk
          [((0 : Nat),
              AV.ag
                [AV.p true (PV.v (Value.string s)), AV.p false (PV.sl false (1 : Nat) n fun (i x : Nat) => PT (f i)),
                  AV.p false (PV.sl false (1 : Nat) m (RR w h))]),
            ((1 : Nat), AV.adr (1 : Nat) (0 : Nat)), ((2 : Nat), AV.adr (2 : Nat) (0 : Nat)),
            ((3 : Nat), AV.adr (3 : Nat) (0 : Nat))]
          [((1 : Nat),
              Ob.box
                [AV.p true (PV.v (Value.string s)), AV.p false (PV.sl false (1 : Nat) n fun (i x : Nat) => PT (f i)),
                  AV.p false (PV.sl false (1 : Nat) m (RR w h))]),
            ((2 : Nat), Ob.box [AV.p true (PV.v (Value.string s)), AV.own (1009 : Nat), AV.own (2009 : Nat)]),
            ((3 : Nat), Ob.box [AV.p true (PV.v (Value.string s)), AV.own (1009 : Nat), AV.own (2009 : Nat)]),
            ((1009 : Nat), Ob.row Mode.u false (1 : Nat) n (TR f) []),
            ((2009 : Nat), Ob.row Mode.u false (1 : Nat) m (RR w h) [])])) := by
  intros; kernel_rfl
def in_toC (nn : Bool) (N : Nat) (c : Ct) := (G0, res22, ([] : List (Nat × Ob)), [Item.ir ir22], start [NL nn N c] [])
theorem ev_toC : ∀ (nn : Bool) (N : Nat) (c : Ct),
  ev G0 res22 [] (3000 : Nat) Or.nil [Item.ir ir22] (start [NL nn N c] []) =
    VC.need
      ((0 : Int) ≤ (↑N : Int) ∧
        (↑N : Int) ≤ (↑N : Int) ∧
          (↑(64 : Nat) : Int) * (↑N : Int) ≤ (281474976710656 : Int) ∧ (↑N : Int) ≤ (9223372036854775807 : Int))
      (VC.loop ir22_L1 [Item.bend (0 : Nat), Item.ir ir22_T2]
        (St.mk
          [((0 : Nat), AV.p false (PV.sl nn (3 : Nat) N (NR c))),
            ((2 : Nat), AV.p true (PV.v (Value.slice none (0 : Nat) (0 : Nat)))), ((3 : Nat), AV.own (7 : Nat)),
            ((4 : Nat), AV.p true (PV.v (Value.int IntKind.i64 (0 : Int))))]
          [((7 : Nat),
              Ob.row Mode.u true (3 : Nat) (↑N : Int).toNat
                (fun (x j : Nat) =>
                  PV.v
                    ([Value.string (ByteArray.mk #[]), Value.slice none (0 : Nat) (0 : Nat),
                          Value.slice none (0 : Nat) (0 : Nat)].getD
                      j undef))
                [])])) := by
  intros; kernel_rfl
def in_eqN (s : ByteArray) (n : Nat) (f : Nat → ByteArray) (m : Nat) (w : Nat → Nat) (h : Nat → Nat → Int) := (G0, res79, ([] : List (Nat × Ob)), [Item.ir ir79], start [NA s n f m w h, NA s n f m w h] [])
theorem ev_eqN : ∀ (s : ByteArray) (n : Nat) (f : Nat → ByteArray) (m : Nat) (w : Nat → Nat) (h : Nat → Nat → Int),
  ev G0 res79 [] (3000 : Nat) (Or.nil.split (Or.call [] (AB true) [] Or.nil.lit)) [Item.ir ir79]
      (start [NA s n f m w h, NA s n f m w h] []) =
    VC.split (!s.toList == s.toList) (VC.doneP (AV.p true (PV.v (Value.bool false))))
      (VC.call (24 : Nat)
        [AV.ag
            [AV.p false (PV.sl false (1 : Nat) n fun (i x : Nat) => PT (f i)),
              AV.p false (PV.sl false (1 : Nat) m (RR w h))],
          AV.ag
            [AV.p false (PV.sl false (1 : Nat) n fun (i x : Nat) => PT (f i)),
              AV.p false (PV.sl false (1 : Nat) m (RR w h))]]
        [] (AB true) [] (VC.doneP (AV.p true (PV.v (Value.bool true))))) := by
  intros; kernel_rfl
def in_eqC (nn nn' : Bool) (N : Nat) (c : Ct) := (G0, res25, ([] : List (Nat × Ob)), [Item.ir ir25], start [NL nn N c, NL nn' N c] [])
theorem ev_eqC : ∀ (nn nn' : Bool) (N : Nat) (c : Ct),
  ev G0 res25 [] (3000 : Nat) (Or.nil.split Or.nil) [Item.ir ir25] (start [NL nn N c, NL nn' N c] []) =
    VC.split ((↑N : Int) != (↑N : Int)) (VC.doneP (AV.p true (PV.v (Value.bool false))))
      (VC.loop ir25_L1 [Item.bend (0 : Nat), Item.ir ir25_T2]
        (St.mk
          [((0 : Nat), AV.p false (PV.sl nn (3 : Nat) N (NR c))),
            ((1 : Nat), AV.p false (PV.sl nn' (3 : Nat) N (NR c))), ((4 : Nat), AV.p true (PV.v (Value.bool false))),
            ((10 : Nat), AV.p true (PV.v (Value.bool ((↑N : Int) != (↑N : Int))))),
            ((5 : Nat), AV.p true (PV.v (Value.int IntKind.i64 (0 : Int))))]
          [])) := by
  intros; kernel_rfl
def in_mkC (nn : Bool) (N : Nat) (c : Ct) (v : Int) := (G0, res26, [(0, Ob.row .u nn 3 N (NR c) [])], [Item.ir ir26], start [.own 0, AI v] [(0, Ob.row .u nn 3 N (NR c) [])])
theorem ev_mkC : ∀ (nn : Bool) (N : Nat) (c : Ct) (v : Int),
  ev G0 res26 [((0 : Nat), Ob.row Mode.u nn (3 : Nat) N (NR c) [])] (3000 : Nat) Or.nil [Item.ir ir26]
      (start [AV.own (0 : Nat), AI v] [((0 : Nat), Ob.row Mode.u nn (3 : Nat) N (NR c) [])]) =
    VC.loop ir26_L1 [Item.bend (0 : Nat), Item.ir ir26_T2]
      (St.mk
        [((0 : Nat), AV.own (100000 : Nat)), ((1 : Nat), AV.p true (PV.v (Value.int IntKind.i64 v))),
          ((4 : Nat), AV.p true (PV.v (Value.int IntKind.i64 (0 : Int)))),
          ((5 : Nat), AV.p true (PV.v (Value.int IntKind.i64 (0 : Int))))]
        [((100000 : Nat), Ob.row Mode.u nn (3 : Nat) N (NR c) [])]) := by
  intros; kernel_rfl
def in_lamN (s : ByteArray) (n : Nat) (f : Nat → ByteArray) (m : Nat) (w : Nat → Nat) (h : Nat → Nat → Int) (x : ByteArray) := (G0, res141, [(0, Ob.box [AT x])], [Item.ir ir141], start [NA s n f m w h, .adr 0 0] [(0, Ob.box [AT x])])
theorem ev_lamN : ∀ (s : ByteArray) (n : Nat) (f : Nat → ByteArray) (m : Nat) (w : Nat → Nat) (h : Nat → Nat → Int) (x : ByteArray),
  ev G0 res141 [((0 : Nat), Ob.box [AT x])] (3000 : Nat) Or.nil [Item.ir ir141]
      (start [NA s n f m w h, AV.adr (0 : Nat) (0 : Nat)] [((0 : Nat), Ob.box [AT x])]) =
    VC.done
      (St.mk
        [((0 : Nat),
            AV.ag
              [AV.p true (PV.v (Value.string s)), AV.p false (PV.sl false (1 : Nat) n fun (i x_1 : Nat) => PT (f i)),
                AV.p false (PV.sl false (1 : Nat) m (RR w h))]),
          ((1 : Nat), AV.adr (100000 : Nat) (0 : Nat)), ((2 : Nat), AV.adr (2 : Nat) (0 : Nat)),
          ((3 : Nat), AV.p true (PV.v (Value.bool (s.toList == x.toList))))]
        [((100000 : Nat), Ob.box [AV.p true (PV.v (Value.string x))]),
          ((2 : Nat),
            Ob.box
              [AV.p true (PV.v (Value.string s)), AV.p false (PV.sl false (1 : Nat) n fun (i x_1 : Nat) => PT (f i)),
                AV.p false (PV.sl false (1 : Nat) m (RR w h))])]) := by
  intros; kernel_rfl
abbrev findFn : AV := .cl 141 [] [.adr 0 0]
def in_ixN (nn : Bool) (N : Nat) (c : Ct) (x : ByteArray) := (G0, res140, [(0, Ob.box [AT x])], [Item.ir ir140], start [NL nn N c, findFn] [(0, Ob.box [AT x])])
theorem ev_ixN : ∀ (nn : Bool) (N : Nat) (c : Ct) (x : ByteArray),
  ev G0 res140 [((0 : Nat), Ob.box [AT x])] (3000 : Nat) Or.nil [Item.ir ir140]
      (start [NL nn N c, findFn] [((0 : Nat), Ob.box [AT x])]) =
    VC.loop ir140_L1 [Item.bend (0 : Nat), Item.ir ir140_T2]
      (St.mk
        [((0 : Nat), AV.p false (PV.sl nn (3 : Nat) N (NR c))),
          ((1 : Nat), AV.cl (141 : Nat) [] [AV.adr (100000 : Nat) (0 : Nat)]),
          ((4 : Nat), AV.p true (PV.v (Value.int IntKind.i64 (0 : Int)))),
          ((7 : Nat), AV.p true (PV.v (Value.int IntKind.i64 (↑N : Int)))),
          ((8 : Nat), AV.p true (PV.v (Value.int IntKind.i64 (0 : Int))))]
        [((100000 : Nat), Ob.box [AV.p true (PV.v (Value.string x))])]) := by
  intros; kernel_rfl
theorem c_szN (s : ByteArray) (n : Nat) (f : Nat → ByteArray) (m : Nat) (w : Nat → Nat) (h : Nat → Nat → Int) (l : Int) (hs : s.size ≤ maxLen) (hn : n ≤ maxLen) (hf : ∀ i, (f i).size ≤ maxLen) (hm : m ≤ maxLen) (hw : ∀ i, w i ≤ maxLen) (hl0 : 0 ≤ l) (hl : l ≤ 1048576) :
    PSome Tryd.prog G0 70 [NA s n f m w h, AI l] [] Int (fun r => r = -1 ∨ (0 ≤ r ∧ r + s.size + (tabSz n f m w : Nat) = l)) (fun r => AI r) (fun _ => []) := by
  refine PCall.by chk70 rfl (ev_szN s n f m w h l) ?_
  simp only [VC.holds_split, VC.holds_need, VC.holds_doneP, VC.holds_done, VC.holds_either, VC.holds_call, VC.holds_callE, VC.holds_lend, VC.holds_stop, VC.holds_fail, decide_eq_true_eq, decide_eq_false_iff_not]
  have hx : maxLen = 9223372036854775807 := rfl
  have w1 : IntKind.i64.wrap (l - (s.size : Int)) = l - s.size := wrap_in (by omega) (by omega)
  rw [w1]
  refine ⟨fun h1 => ⟨-1, .inl rfl, rfl, trivial⟩, fun h1 => ⟨c_szA _ _ _ _ _ _ _ _ hn hf hm hw (by omega) (by omega), fun r hr => ⟨fun h2 => ⟨-1, .inl rfl, rfl, trivial⟩, fun h2 => ⟨r, ?_, rfl, trivial⟩⟩⟩⟩
  have hr := hr.resolve_left (by omega)
  exact .inr ⟨hr.1, by omega⟩
def szE (c : Ct) (i : Nat) : Nat := (c.nm i).size + tabSz (c.n i) (c.f i) (c.m i) (c.w i)
def st_szC (nn : Bool) (N : Nat) (c : Ct) (x : Nat × Int) : St := ⟨[(0, NL nn N c), (1, AI x.2), (5, AI x.1)], []⟩
def r_szC (nn : Bool) (N : Nat) (c : Ct) (I : Nat × Int → St → Prop) (x : Nat × Int) := (G0, res20, ([] : List (Nat × Ob)), [Item.ir ir20_L1, .lend (I x), Item.bend 0, Item.ir ir20_T2], st_szC nn N c x)
theorem evr_szC : ∀ (nn : Bool) (N : Nat) (c : Ct) (I : Nat × Int → St → Prop) (x : Nat × Int),
  ev G0 res20 [] (3000 : Nat)
      ((Or.callE [] Int
            (fun (r : Int) =>
              r = (-1 : Int) ∨
                (0 : Int) ≤ r ∧
                  r + (↑(c.nm (↑x.1 : Int).toNat).size : Int) +
                      (↑(tabSz (c.n (↑x.1 : Int).toNat) (c.f (↑x.1 : Int).toNat) (c.m (↑x.1 : Int).toNat)
                            (c.w (↑x.1 : Int).toNat)) :
                        Int) =
                    x.2)
            (fun (r : Int) => AI r) (fun (x_1 : Int) => []) fun (r : Int) => Or.nil.split Or.nil).split
        Or.nil)
      [Item.ir ir20_L1, Item.lend (I x), Item.bend (0 : Nat), Item.ir ir20_T2] (st_szC nn N c x) =
    VC.split (decide ((↑x.1 : Int) < (↑N : Int)))
      (VC.need ((0 : Int) ≤ (↑x.1 : Int) ∧ (↑x.1 : Int).toNat < N)
        (VC.callE Int (70 : Nat)
          [AV.ag
              [AV.p true (PV.v (Value.string (c.nm (↑x.1 : Int).toNat))),
                AV.p false (PV.sl false (1 : Nat) (c.n (↑x.1 : Int).toNat) (TR (c.f (↑x.1 : Int).toNat))),
                AV.p false
                  (PV.sl false (1 : Nat) (c.m (↑x.1 : Int).toNat)
                    (RR (c.w (↑x.1 : Int).toNat) (c.h (↑x.1 : Int).toNat)))],
            AV.p true (PV.v (Value.int IntKind.i64 x.2))]
          []
          (fun (r : Int) =>
            r = (-1 : Int) ∨
              (0 : Int) ≤ r ∧
                r + (↑(c.nm (↑x.1 : Int).toNat).size : Int) +
                    (↑(tabSz (c.n (↑x.1 : Int).toNat) (c.f (↑x.1 : Int).toNat) (c.m (↑x.1 : Int).toNat)
                          (c.w (↑x.1 : Int).toNat)) :
                      Int) =
                  x.2)
          (fun (r : Int) => AI r) (fun (x_1 : Int) => []) fun (r : Int) =>
          VC.split (decide (r < (0 : Int))) (VC.doneP (AV.p true (PV.v (Value.int IntKind.i64 (-1 : Int)))))
            (VC.lend (I x)
              (St.mk
                [((0 : Nat), AV.p false (PV.sl nn (3 : Nat) N (NR c))),
                  ((1 : Nat), AV.p true (PV.v (Value.int IntKind.i64 r))),
                  ((5 : Nat), AV.p true (PV.v (Value.int IntKind.i64 (IntKind.i64.wrap ((↑x.1 : Int) + (1 : Int)))))),
                  ((15 : Nat), AV.p true (PV.v (Value.bool (decide ((↑x.1 : Int) < (↑N : Int)))))),
                  ((25 : Nat), AV.p true (PV.v (Value.bool (decide (r < (0 : Int))))))]
                []))))
      (VC.doneP (AV.p true (PV.v (Value.int IntKind.i64 x.2)))) := by
  intros; kernel_rfl
def cut (c : Ct) (k : Nat) : Ct := ⟨fun i => if i < k then c.nm i else ⟨#[]⟩, fun i => if i < k then c.n i else 0, c.f, fun i => if i < k then c.m i else 0, c.w, c.h⟩
def st_toC (nn : Bool) (N : Nat) (c : Ct) (k : Nat) : St := ⟨[(0, NL nn N c), (3, .own 7), (4, AI k)], [(7, .row .u true 3 N (NR (cut c k)) [])]⟩
abbrev toNR (s : ByteArray) : AV := .ag [AT s, .own 0, .own 1]
theorem c_toN (s : ByteArray) (n : Nat) (f : Nat → ByteArray) (m : Nat) (w : Nat → Nat) (h : Nat → Nat → Int) (hn : n ≤ 1048576) (hm : m ≤ 1048576) (hw : ∀ i, i < m → w i ≤ 1048576) : PObj Tryd.prog G0 73 [NA s n f m w h] [] (toNR s) (taH n f m w h) := by
  refine PObj.by chk73 rfl (ev_toN s n f m w h) ?_
  simp only [VC.holds_split, VC.holds_need, VC.holds_doneP, VC.holds_done, VC.holds_either, VC.holds_call, VC.holds_callE, VC.holds_lend, VC.holds_stop, VC.holds_fail, decide_eq_true_eq, decide_eq_false_iff_not]
  refine ⟨c_toA _ _ _ _ _ _ _ hn hm hw, ResOk.mk [] [(0, 1009), (1, 2009)] [] _ _ ?_ ⟨rfl, rfl⟩⟩
  simp [doneC, resOf, resAV, tup, pinR, PV.Le_self, hbs, St.lowers, St.lower, stLe, leEnv, leObs, obLe, injB, pinC, AV.leC, AV.leCs, PV.leC, PV.Le_v, St.get, St.obj, look, rho, isNew, keptC, renH, Mode.ok, Mode.isZ, PV.isVal, PV.isNilSl, List.all_nil, List.all_cons, List.any_nil, List.any_cons, List.map_nil, List.map_cons, res73]
def r_toC (nn : Bool) (N : Nat) (c : Ct) (I : Nat → St → Prop) (k : Nat) := (G0, res22, ([] : List (Nat × Ob)), [Item.ir ir22_L1, .lend (I k), Item.bend 0, Item.ir ir22_T2], st_toC nn N c k)
theorem evr_toC : ∀ (nn : Bool) (N : Nat) (c : Ct) (I : Nat → St → Prop) (k : Nat),
  ev G0 res22 [] (3000 : Nat)
      ((Or.call [] (toNR (c.nm (↑k : Int).toNat))
            (taH (c.n (↑k : Int).toNat) (c.f (↑k : Int).toNat) (c.m (↑k : Int).toNat) (c.w (↑k : Int).toNat)
              (c.h (↑k : Int).toNat))
            Or.nil).split
        Or.nil)
      [Item.ir ir22_L1, Item.lend (I k), Item.bend (0 : Nat), Item.ir ir22_T2] (st_toC nn N c k) =
    VC.split (decide ((↑k : Int) < (↑N : Int)))
      (VC.need ((0 : Int) ≤ (↑k : Int) ∧ (↑k : Int).toNat < N)
        (VC.call (73 : Nat)
          [AV.ag
              [AV.p true (PV.v (Value.string (c.nm (↑k : Int).toNat))),
                AV.p false (PV.sl false (1 : Nat) (c.n (↑k : Int).toNat) (TR (c.f (↑k : Int).toNat))),
                AV.p false
                  (PV.sl false (1 : Nat) (c.m (↑k : Int).toNat) (RR (c.w (↑k : Int).toNat) (c.h (↑k : Int).toNat)))]]
          [] (toNR (c.nm (↑k : Int).toNat))
          (taH (c.n (↑k : Int).toNat) (c.f (↑k : Int).toNat) (c.m (↑k : Int).toNat) (c.w (↑k : Int).toNat)
            (c.h (↑k : Int).toNat))
          (VC.need ((0 : Int) ≤ (↑k : Int) ∧ (↑k : Int).toNat < N)
            (VC.need ((↑k : Int).toNat < N)
              (VC.lend (I k)
                (St.mk
                  [((0 : Nat), AV.p false (PV.sl nn (3 : Nat) N (NR c))), ((3 : Nat), AV.own (7 : Nat)),
                    ((4 : Nat), AV.p true (PV.v (Value.int IntKind.i64 (IntKind.i64.wrap ((↑k : Int) + (1 : Int)))))),
                    ((11 : Nat), AV.p true (PV.v (Value.bool (decide ((↑k : Int) < (↑N : Int))))))]
                  [((7 : Nat),
                      Ob.row Mode.u true (3 : Nat) N
                        (setG
                          [((↑k : Int).toNat, (0 : Nat), PV.v (Value.string (c.nm (↑k : Int).toNat))),
                            ((↑k : Int).toNat, (1 : Nat),
                              PV.sl false (1 : Nat) (c.n (↑k : Int).toNat) (TR (c.f (↑k : Int).toNat))),
                            ((↑k : Int).toNat, (2 : Nat),
                              PV.sl false (1 : Nat) (c.m (↑k : Int).toNat)
                                (RR (c.w (↑k : Int).toNat) (c.h (↑k : Int).toNat)))]
                          (NR (cut c k)))
                        [])]))))))
      (VC.done
        (St.mk
          [((0 : Nat), AV.p false (PV.sl nn (3 : Nat) N (NR c))), ((3 : Nat), AV.own (7 : Nat)),
            ((4 : Nat), AV.p true (PV.v (Value.int IntKind.i64 (↑k : Int)))),
            ((11 : Nat), AV.p true (PV.v (Value.bool (decide ((↑k : Int) < (↑N : Int)))))),
            ((2 : Nat), AV.own (7 : Nat))]
          [((7 : Nat), Ob.row Mode.u true (3 : Nat) N (NR (cut c k)) [])])) := by
  intros; kernel_rfl
theorem c_eqN (s : ByteArray) (n : Nat) (f : Nat → ByteArray) (m : Nat) (w : Nat → Nat) (h : Nat → Nat → Int) (hn : n ≤ 1048576000) (hm : m ≤ 1048576000) (hw : ∀ i, i < m → w i ≤ 1048576000) : PRet Tryd.prog G0 79 [NA s n f m w h, NA s n f m w h] (AB true) := by
  refine PRet.by chk79 (ev_eqN s n f m w h) ?_
  simp only [VC.holds_split, VC.holds_need, VC.holds_doneP, VC.holds_done, VC.holds_either, VC.holds_call, VC.holds_callE, VC.holds_lend, VC.holds_stop, VC.holds_fail, decide_eq_true_eq, decide_eq_false_iff_not]
  refine ⟨fun h1 => by simp at h1, fun h1 => ⟨c_eqA _ _ _ _ _ _ _ _ _ hn hm hw, ?_⟩⟩
  simp
def st_eqC (nn nn' : Bool) (N : Nat) (c : Ct) (k : Nat) : St := ⟨[(0, NL nn N c), (1, NL nn' N c), (5, AI k)], []⟩
def r_eqC (nn nn' : Bool) (N : Nat) (c : Ct) (I : Nat → St → Prop) (k : Nat) := (G0, res25, ([] : List (Nat × Ob)), [Item.ir ir25_L1, .lend (I k), Item.bend 0, Item.ir ir25_T2], st_eqC nn nn' N c k)
theorem evr_eqC : ∀ (nn nn' : Bool) (N : Nat) (c : Ct) (I : Nat → St → Prop) (k : Nat),
  ev G0 res25 [] (3000 : Nat) ((Or.call [] (AB true) [] Or.nil.lit).split Or.nil)
      [Item.ir ir25_L1, Item.lend (I k), Item.bend (0 : Nat), Item.ir ir25_T2] (st_eqC nn nn' N c k) =
    VC.split (decide ((↑k : Int) < (↑N : Int)))
      (VC.need ((0 : Int) ≤ (↑k : Int) ∧ (↑k : Int).toNat < N)
        (VC.need ((0 : Int) ≤ (↑k : Int) ∧ (↑k : Int).toNat < N)
          (VC.call (79 : Nat)
            [AV.ag
                [AV.p true (PV.v (Value.string (c.nm (↑k : Int).toNat))),
                  AV.p false (PV.sl false (1 : Nat) (c.n (↑k : Int).toNat) (TR (c.f (↑k : Int).toNat))),
                  AV.p false
                    (PV.sl false (1 : Nat) (c.m (↑k : Int).toNat) (RR (c.w (↑k : Int).toNat) (c.h (↑k : Int).toNat)))],
              AV.ag
                [AV.p true (PV.v (Value.string (c.nm (↑k : Int).toNat))),
                  AV.p false (PV.sl false (1 : Nat) (c.n (↑k : Int).toNat) (TR (c.f (↑k : Int).toNat))),
                  AV.p false
                    (PV.sl false (1 : Nat) (c.m (↑k : Int).toNat) (RR (c.w (↑k : Int).toNat) (c.h (↑k : Int).toNat)))]]
            [] (AB true) []
            (VC.lend (I k)
              (St.mk
                [((0 : Nat), AV.p false (PV.sl nn (3 : Nat) N (NR c))),
                  ((1 : Nat), AV.p false (PV.sl nn' (3 : Nat) N (NR c))),
                  ((5 : Nat), AV.p true (PV.v (Value.int IntKind.i64 (IntKind.i64.wrap ((↑k : Int) + (1 : Int)))))),
                  ((14 : Nat), AV.p true (PV.v (Value.bool (decide ((↑k : Int) < (↑N : Int)))))),
                  ((26 : Nat), AV.p true (PV.v (Value.bool false)))]
                [])))))
      (VC.doneP (AV.p true (PV.v (Value.bool true)))) := by
  intros; kernel_rfl
def mkE (c : Ct) (i : Nat) : Nat := 1 + c.n i + sumN (c.w i) (c.m i)
def mkC (c : Ct) (v : Int) (k : Nat) : Ct := ⟨fun i => if i < k then markT (v + (sumN (mkE c) i : Nat)) else c.nm i, c.n, fun i j => if i < k then markT (v + (sumN (mkE c) i : Nat) + 1 + j) else c.f i j, c.m, c.w, fun i a b => if i < k then mkH (c.w i) (v + (sumN (mkE c) i : Nat) + 1 + c.n i) a b else c.h i a b⟩
def st_mkC (nn : Bool) (N : Nat) (c : Ct) (v : Int) (k : Nat) : St := ⟨[(0, .own 100000), (1, AI (v + (sumN (mkE c) k : Nat))), (5, AI k)], [(100000, .row .u nn 3 N (NR (mkC c v k)) [])]⟩
def r_mkC (nn : Bool) (N : Nat) (c : Ct) (v : Int) (I : Nat → St → Prop) (k : Nat) := (G0, res26, [(0, Ob.row .u nn 3 N (NR c) [])], [Item.ir ir26_L1, .lend (I k), Item.bend 0, Item.ir ir26_T2], st_mkC nn N c v k)
theorem evr_mkC : ∀ (nn : Bool) (N : Nat) (c : Ct) (v : Int) (I : Nat → St → Prop) (k : Nat),
  ev G0 res26 [((0 : Nat), Ob.row Mode.u nn (3 : Nat) N (NR c) [])] (3000 : Nat)
      ((Or.call [] (AT (markT (v + (↑(sumN (mkE c) k) : Int)))) []
            (Or.call [(1025 : Nat)]
              (AI
                (IntKind.i64.wrap (v + (↑(sumN (mkE c) k) : Int) + (1 : Int)) +
                  (↑((mkC c v k).n (↑k : Int).toNat) : Int)))
              [((0 : Nat),
                  Ob.row Mode.u false (1 : Nat) ((mkC c v k).n (↑k : Int).toNat)
                    (TR fun (i : Nat) =>
                      markT (IntKind.i64.wrap (v + (↑(sumN (mkE c) k) : Int) + (1 : Int)) + (↑i : Int)))
                    [])]
              (Or.call [(1033 : Nat)]
                (AI
                  (IntKind.i64.wrap (v + (↑(sumN (mkE c) k) : Int) + (1 : Int)) +
                      (↑((mkC c v k).n (↑k : Int).toNat) : Int) +
                    (↑(sumN ((mkC c v k).w (↑k : Int).toNat) ((mkC c v k).m (↑k : Int).toNat)) : Int)))
                [((0 : Nat),
                    Ob.row Mode.u false (1 : Nat) ((mkC c v k).m (↑k : Int).toNat)
                      (RR ((mkC c v k).w (↑k : Int).toNat)
                        (mkH ((mkC c v k).w (↑k : Int).toNat)
                          (IntKind.i64.wrap (v + (↑(sumN (mkE c) k) : Int) + (1 : Int)) +
                            (↑((mkC c v k).n (↑k : Int).toNat) : Int))))
                      [])]
                Or.nil))).split
        Or.nil)
      [Item.ir ir26_L1, Item.lend (I k), Item.bend (0 : Nat), Item.ir ir26_T2] (st_mkC nn N c v k) =
    VC.split (decide ((↑k : Int) < (↑N : Int)))
      (VC.call (80 : Nat) [AV.p true (PV.v (Value.int IntKind.i64 (v + (↑(sumN (mkE c) k) : Int))))] []
        (AT (markT (v + (↑(sumN (mkE c) k) : Int)))) []
        (VC.need ((0 : Int) ≤ (↑k : Int) ∧ (↑k : Int).toNat < N)
          (VC.need ((↑k : Int).toNat < N)
            (VC.need ((0 : Int) ≤ (↑k : Int) ∧ (↑k : Int).toNat < N)
              (VC.need ((↑k : Int).toNat < N)
                (VC.call (81 : Nat)
                  [AV.own (0 : Nat),
                    AV.p true
                      (PV.v (Value.int IntKind.i64 (IntKind.i64.wrap (v + (↑(sumN (mkE c) k) : Int) + (1 : Int)))))]
                  [((0 : Nat),
                      Ob.row Mode.u false (1 : Nat) ((mkC c v k).n (↑k : Int).toNat)
                        (TR ((mkC c v k).f (↑k : Int).toNat)) [])]
                  (AI
                    (IntKind.i64.wrap (v + (↑(sumN (mkE c) k) : Int) + (1 : Int)) +
                      (↑((mkC c v k).n (↑k : Int).toNat) : Int)))
                  [((0 : Nat),
                      Ob.row Mode.u false (1 : Nat) ((mkC c v k).n (↑k : Int).toNat)
                        (TR fun (i : Nat) =>
                          markT (IntKind.i64.wrap (v + (↑(sumN (mkE c) k) : Int) + (1 : Int)) + (↑i : Int)))
                        [])]
                  (VC.need ((0 : Int) ≤ (↑k : Int) ∧ (↑k : Int).toNat < N)
                    (VC.need ((↑k : Int).toNat < N)
                      (VC.call (82 : Nat)
                        [AV.own (0 : Nat),
                          AV.p true
                            (PV.v
                              (Value.int IntKind.i64
                                (IntKind.i64.wrap (v + (↑(sumN (mkE c) k) : Int) + (1 : Int)) +
                                  (↑((mkC c v k).n (↑k : Int).toNat) : Int))))]
                        [((0 : Nat),
                            Ob.row Mode.u false (1 : Nat) ((mkC c v k).m (↑k : Int).toNat)
                              (RR ((mkC c v k).w (↑k : Int).toNat) ((mkC c v k).h (↑k : Int).toNat)) [])]
                        (AI
                          (IntKind.i64.wrap (v + (↑(sumN (mkE c) k) : Int) + (1 : Int)) +
                              (↑((mkC c v k).n (↑k : Int).toNat) : Int) +
                            (↑(sumN ((mkC c v k).w (↑k : Int).toNat) ((mkC c v k).m (↑k : Int).toNat)) : Int)))
                        [((0 : Nat),
                            Ob.row Mode.u false (1 : Nat) ((mkC c v k).m (↑k : Int).toNat)
                              (RR ((mkC c v k).w (↑k : Int).toNat)
                                (mkH ((mkC c v k).w (↑k : Int).toNat)
                                  (IntKind.i64.wrap (v + (↑(sumN (mkE c) k) : Int) + (1 : Int)) +
                                    (↑((mkC c v k).n (↑k : Int).toNat) : Int))))
                              [])]
                        (VC.lend (I k)
                          (St.mk
                            [((0 : Nat), AV.own (100000 : Nat)),
                              ((1 : Nat),
                                AV.p true
                                  (PV.v
                                    (Value.int IntKind.i64
                                      (IntKind.i64.wrap (v + (↑(sumN (mkE c) k) : Int) + (1 : Int)) +
                                          (↑((mkC c v k).n (↑k : Int).toNat) : Int) +
                                        (↑(sumN ((mkC c v k).w (↑k : Int).toNat) ((mkC c v k).m (↑k : Int).toNat)) :
                                          Int))))),
                              ((5 : Nat),
                                AV.p true (PV.v (Value.int IntKind.i64 (IntKind.i64.wrap ((↑k : Int) + (1 : Int)))))),
                              ((9 : Nat), AV.p true (PV.v (Value.bool (decide ((↑k : Int) < (↑N : Int))))))]
                            [((100000 : Nat),
                                Ob.row Mode.u nn (3 : Nat) N
                                  (cellSet
                                    (cellSet
                                      (setG
                                        [((↑k : Int).toNat, (0 : Nat),
                                            PV.v (Value.string (markT (v + (↑(sumN (mkE c) k) : Int)))))]
                                        (NR (mkC c v k)))
                                      (↑k : Int).toNat (nat_lit 1)
                                      (PV.sl false (1 : Nat) ((mkC c v k).n (↑k : Int).toNat)
                                        (TR fun (i : Nat) =>
                                          markT
                                            (IntKind.i64.wrap (v + (↑(sumN (mkE c) k) : Int) + (1 : Int)) +
                                              (↑i : Int)))))
                                    (↑k : Int).toNat (nat_lit 2)
                                    (PV.sl false (1 : Nat) ((mkC c v k).m (↑k : Int).toNat)
                                      (RR ((mkC c v k).w (↑k : Int).toNat)
                                        (mkH ((mkC c v k).w (↑k : Int).toNat)
                                          (IntKind.i64.wrap (v + (↑(sumN (mkE c) k) : Int) + (1 : Int)) +
                                            (↑((mkC c v k).n (↑k : Int).toNat) : Int))))))
                                  [])])))))))))))
      (VC.done
        (St.mk
          [((0 : Nat), AV.own (100000 : Nat)),
            ((1 : Nat), AV.p true (PV.v (Value.int IntKind.i64 (v + (↑(sumN (mkE c) k) : Int))))),
            ((5 : Nat), AV.p true (PV.v (Value.int IntKind.i64 (↑k : Int)))),
            ((9 : Nat), AV.p true (PV.v (Value.bool (decide ((↑k : Int) < (↑N : Int)))))),
            ((4 : Nat), AV.p true (PV.v (Value.int IntKind.i64 (v + (↑(sumN (mkE c) k) : Int)))))]
          [((100000 : Nat), Ob.row Mode.u nn (3 : Nat) N (NR (mkC c v k)) [])])) := by
  intros; kernel_rfl
def st_ixN (nn : Bool) (N : Nat) (c : Ct) (x : ByteArray) (k : Nat) : St := ⟨[(0, NL nn N c), (1, .cl 141 [] [.adr 100000 0]), (7, AI N), (8, AI k)], [(100000, .box [AT x])]⟩
theorem c_lamN (s : ByteArray) (n : Nat) (f : Nat → ByteArray) (m : Nat) (w : Nat → Nat) (h : Nat → Nat → Int) (x : ByteArray) : PObj Tryd.prog G0 141 [NA s n f m w h, .adr 0 0] [(0, .box [AT x])] (AB (s.toList == x.toList)) [(0, .box [AT x])] := by
  refine PObj.by chk141 rfl (ev_lamN s n f m w h x) ?_
  simp only [VC.holds_split, VC.holds_need, VC.holds_doneP, VC.holds_done, VC.holds_either, VC.holds_call, VC.holds_callE, VC.holds_lend, VC.holds_stop, VC.holds_fail, decide_eq_true_eq, decide_eq_false_iff_not]
  refine ResOk.mk [] [(0, 100000)] [] _ _ ?_ ⟨rfl, rfl⟩
  simp [doneC, resOf, resAV, tup, pinR, PV.Le_self, hbs, St.lowers, St.lower, stLe, leEnv, leObs, obLe, injB, pinC, AV.leC, AV.leCs, PV.leC, PV.Le_v, St.get, St.obj, look, rho, isNew, keptC, renH, Mode.ok, Mode.isZ, PV.isVal, PV.isNilSl, List.all_nil, List.all_cons, List.any_nil, List.any_cons, List.map_nil, List.map_cons, res141]
def r_ixN (nn : Bool) (N : Nat) (c : Ct) (x : ByteArray) (I : Nat → St → Prop) (k : Nat) := (G0, res140, [(0, Ob.box [AT x])], [Item.ir ir140_L1, .lend (I k), Item.bend 0, Item.ir ir140_T2], st_ixN nn N c x k)
theorem evr_ixN : ∀ (nn : Bool) (N : Nat) (c : Ct) (x : ByteArray) (I : Nat → St → Prop) (k : Nat),
  ev G0 res140 [((0 : Nat), Ob.box [AT x])] (3000 : Nat)
      ((Or.call [(100000 : Nat)] (AB ((c.nm (↑k : Int).toNat).toList == x.toList)) [((0 : Nat), Ob.box [AT x])]
            (Or.nil.split Or.nil)).split
        Or.nil)
      [Item.ir ir140_L1, Item.lend (I k), Item.bend (0 : Nat), Item.ir ir140_T2] (st_ixN nn N c x k) =
    VC.split (decide ((↑k : Int) < (↑N : Int)))
      (VC.need ((0 : Int) ≤ (↑k : Int) ∧ (↑k : Int).toNat < N)
        (VC.call (141 : Nat)
          [AV.ag
              [AV.p true (PV.v (Value.string (c.nm (↑k : Int).toNat))),
                AV.p false (PV.sl false (1 : Nat) (c.n (↑k : Int).toNat) (TR (c.f (↑k : Int).toNat))),
                AV.p false
                  (PV.sl false (1 : Nat) (c.m (↑k : Int).toNat) (RR (c.w (↑k : Int).toNat) (c.h (↑k : Int).toNat)))],
            AV.adr (0 : Nat) (0 : Nat)]
          [((0 : Nat), Ob.box [AV.p true (PV.v (Value.string x))])] (AB ((c.nm (↑k : Int).toNat).toList == x.toList))
          [((0 : Nat), Ob.box [AT x])]
          (VC.split ((c.nm (↑k : Int).toNat).toList == x.toList)
            (VC.done
              (St.mk
                [((0 : Nat), AV.p false (PV.sl nn (3 : Nat) N (NR c))),
                  ((1 : Nat), AV.cl (141 : Nat) [] [AV.adr (100000 : Nat) (0 : Nat)]),
                  ((7 : Nat), AV.p true (PV.v (Value.int IntKind.i64 (↑N : Int)))),
                  ((8 : Nat), AV.p true (PV.v (Value.int IntKind.i64 (↑k : Int)))),
                  ((9 : Nat), AV.p true (PV.v (Value.bool (decide ((↑k : Int) < (↑N : Int)))))),
                  ((5 : Nat), AV.p true (PV.v (Value.int IntKind.i64 (↑k : Int)))),
                  ((16 : Nat), AV.p true (PV.v (Value.bool ((c.nm (↑k : Int).toNat).toList == x.toList)))),
                  ((4 : Nat), AV.p true (PV.v (Value.int IntKind.i64 (↑k : Int))))]
                [((100000 : Nat), Ob.box [AV.p true (PV.v (Value.string x))])]))
            (VC.lend (I k)
              (St.mk
                [((0 : Nat), AV.p false (PV.sl nn (3 : Nat) N (NR c))),
                  ((1 : Nat), AV.cl (141 : Nat) [] [AV.adr (100000 : Nat) (0 : Nat)]),
                  ((7 : Nat), AV.p true (PV.v (Value.int IntKind.i64 (↑N : Int)))),
                  ((8 : Nat), AV.p true (PV.v (Value.int IntKind.i64 (IntKind.i64.wrap ((↑k : Int) + (1 : Int)))))),
                  ((9 : Nat), AV.p true (PV.v (Value.bool (decide ((↑k : Int) < (↑N : Int)))))),
                  ((5 : Nat), AV.p true (PV.v (Value.int IntKind.i64 (↑k : Int)))),
                  ((16 : Nat), AV.p true (PV.v (Value.bool ((c.nm (↑k : Int).toNat).toList == x.toList))))]
                [((100000 : Nat), Ob.box [AV.p true (PV.v (Value.string x))])])))))
      (VC.done
        (St.mk
          [((0 : Nat), AV.p false (PV.sl nn (3 : Nat) N (NR c))),
            ((1 : Nat), AV.cl (141 : Nat) [] [AV.adr (100000 : Nat) (0 : Nat)]),
            ((7 : Nat), AV.p true (PV.v (Value.int IntKind.i64 (↑N : Int)))),
            ((8 : Nat), AV.p true (PV.v (Value.int IntKind.i64 (↑k : Int)))),
            ((9 : Nat), AV.p true (PV.v (Value.bool (decide ((↑k : Int) < (↑N : Int)))))),
            ((4 : Nat), AV.p true (PV.v (Value.int IntKind.i64 (-1 : Int))))]
          [((100000 : Nat), Ob.box [AV.p true (PV.v (Value.string x))])])) := by
  intros; kernel_rfl
theorem sl_le {n n' : Nat} {f f' : Nat → Nat → PV} (hn : n = n') (h : ∀ i, i < n → PV.Le (f i 0) (f' i 0)) : PV.Le (.sl false 1 n f) (.sl false 1 n' f') :=
  .sl _ _ (fun e => e) 1 _ _ _ _ hn fun i j hi hj => by
    have e : j = 0 := by omega
    subst e
    exact h i hi
theorem NR_le {c d : Ct} {i j : Nat} (h0 : c.nm i = d.nm i) (h1 : c.n i = d.n i) (h2 : ∀ a, a < c.n i → c.f i a = d.f i a) (h3 : c.m i = d.m i) (h4 : ∀ a, a < c.m i → c.w i a = d.w i a) (h5 : ∀ a b, a < c.m i → b < c.w i a → c.h i a b = d.h i a b) : PV.Le (NR c i j) (NR d i j) := by
  match j with
  | 0 => show PV.Le (PT _) (PT _); rw [h0]; exact .refl _
  | 1 => exact sl_le h1 fun a ha => by rw [show TR (c.f i) a 0 = TR (d.f i) a 0 from by simp only [TR, h2 a ha]]; exact .refl _
  | 2 => exact sl_le h3 fun a ha => RR_le (h4 a ha) fun b hb => h5 a b ha hb
  | j + 3 => exact .refl _
theorem c_szC (nn : Bool) (N : Nat) (c : Ct) (l : Int) (hN : N ≤ maxLen) (hs : ∀ i, (c.nm i).size ≤ maxLen) (hn : ∀ i, c.n i ≤ maxLen) (hf : ∀ i j, (c.f i j).size ≤ maxLen) (hm : ∀ i, c.m i ≤ maxLen) (hw : ∀ i j, c.w i j ≤ maxLen) (hl0 : 0 ≤ l) (hl : l ≤ 1048576) : PSome Tryd.prog G0 20 [NL nn N c, AI l] [] Int (fun r => r = -1 ∨ (0 ≤ r ∧ r + N + (sumN (szE c) N : Nat) = l)) (fun r => AI r) (fun _ => []) := by
  refine PCall.by chk20 rfl (ev_szC nn N c l) ?_
  simp only [VC.holds_split, VC.holds_need, VC.holds_doneP, VC.holds_done, VC.holds_either, VC.holds_call, VC.holds_callE, VC.holds_lend, VC.holds_stop, VC.holds_fail, decide_eq_true_eq, decide_eq_false_iff_not]
  have hx : maxLen = 9223372036854775807 := rfl
  have w1 : IntKind.i64.wrap (l - N) = l - N := wrap_in (by omega) (by omega)
  rw [w1]
  refine ⟨fun h => ⟨-1, .inl rfl, rfl, trivial⟩, fun h0 => ?_⟩
  refine loop_by (st_szC nn N c) (fun x => x.1 ≤ N ∧ 0 ≤ x.2 ∧ x.2 + N + (sumN (szE c) x.1 : Nat) = l) (fun x => N - x.1) (0, l - N) [] [] [] ⟨by simp, by simp only []; omega, by simp only [sumN]; omega⟩ ?_ (evr_szC nn N c) fun x hx' => ?_
  · simp [st_szC, hbs, St.lowers, St.lower, stLe, leEnv, leObs, obLe, injB, pinC, AV.leC, AV.leCs, PV.leC, PV.Le_v, St.get, St.obj, look, rho, isNew, keptC, renH, Mode.ok, Mode.isZ, PV.isVal, PV.isNilSl, List.all_nil, List.all_cons, List.any_nil, List.any_cons, List.map_nil, List.map_cons, PV.Le_self]
  · obtain ⟨k, r⟩ := x
    obtain ⟨h1, h2, h3⟩ := hx'
    simp only [] at h1 h2 h3
    simp only [VC.holds_split, VC.holds_need, VC.holds_doneP, VC.holds_done, VC.holds_either, VC.holds_call, VC.holds_callE, VC.holds_lend, VC.holds_stop, VC.holds_fail, decide_eq_true_eq, decide_eq_false_iff_not, Int.toNat_natCast]
    refine ⟨fun h5 => ⟨by omega, c_szN _ _ _ _ _ _ _ (hs k) (hn k) (hf k) (hm k) (hw k) h2 (by omega), fun r' hr' => ⟨fun h6 => ⟨-1, .inl rfl, rfl, trivial⟩, fun h6 => ?_⟩⟩, fun h5 => ⟨r, .inr ⟨h2, ?_⟩, rfl, trivial⟩⟩
    · have hr := hr'.resolve_left (by omega)
      refine Again.mk (k + 1, r') [] [] [] ⟨by simp only []; omega, by simp only []; omega, ?_⟩ (by simp only []; omega) ?_
      · simp only [sumN, szE]; omega
      · have e1 : IntKind.i64.wrap ((k : Int) + 1) = ((k + 1 : Nat) : Int) := wrap_in (by omega) (by omega)
        simp [st_szC, hbs, St.lowers, St.lower, stLe, leEnv, leObs, obLe, injB, pinC, AV.leC, AV.leCs, PV.leC, PV.Le_v, St.get, St.obj, look, rho, isNew, keptC, renH, Mode.ok, Mode.isZ, PV.isVal, PV.isNilSl, List.all_nil, List.all_cons, List.any_nil, List.any_cons, List.map_nil, List.map_cons, PV.Le_self, e1]
    · have : k = N := by omega
      subst this
      exact h3
theorem c_toC (nn : Bool) (N : Nat) (c : Ct) (hN : N ≤ 1048576) (hn : ∀ i, i < N → c.n i ≤ 1048576) (hm : ∀ i, i < N → c.m i ≤ 1048576) (hw : ∀ i j, i < N → j < c.m i → c.w i j ≤ 1048576) : PObj Tryd.prog G0 22 [NL nn N c] [] (.own 0) [(0, .row .u true 3 N (NR c) [])] := by
  refine PObj.by chk22 rfl (ev_toC nn N c) ?_
  simp only [VC.holds_split, VC.holds_need, VC.holds_doneP, VC.holds_done, VC.holds_either, VC.holds_call, VC.holds_callE, VC.holds_lend, VC.holds_stop, VC.holds_fail, decide_eq_true_eq, decide_eq_false_iff_not]
  refine ⟨by omega, loop_by (st_toC nn N c) (fun k => k ≤ N) (fun k => N - k) 0 [] [] [] (by omega) ?_ (evr_toC nn N c) fun k hk => ?_⟩
  · simp [st_toC, hbs, St.lowers, St.lower, stLe, leEnv, leObs, obLe, injB, pinC, AV.leC, AV.leCs, PV.leC, PV.Le_v, St.get, St.obj, look, rho, isNew, keptC, renH, Mode.ok, Mode.isZ, PV.isVal, PV.isNilSl, List.all_nil, List.all_cons, List.any_nil, List.any_cons, List.map_nil, List.map_cons, PV.Le_self]
    intro i j hi hj
    match j with
    | 0 => exact .refl _
    | 1 => exact PV.Le.nil _ _
    | 2 => exact PV.Le.nil _ _
    | j + 3 => omega
  · simp only [VC.holds_split, VC.holds_need, VC.holds_doneP, VC.holds_done, VC.holds_either, VC.holds_call, VC.holds_callE, VC.holds_lend, VC.holds_stop, VC.holds_fail, decide_eq_true_eq, decide_eq_false_iff_not, Int.toNat_natCast]
    refine ⟨fun h0 => ⟨by omega, c_toN _ _ _ _ _ _ (hn k (by omega)) (hm k (by omega)) (fun j hj => hw k j (by omega) hj), by omega, by omega, Again.mk (k + 1) [] [] [] (by omega) (by omega) ?_⟩, fun h0 => ?_⟩
    · have : IntKind.i64.wrap ((k : Int) + 1) = ((k + 1 : Nat) : Int) := wrap_in (by omega) (by omega)
      simp [st_toC, hbs, St.lowers, St.lower, stLe, leEnv, leObs, obLe, injB, pinC, AV.leC, AV.leCs, PV.leC, PV.Le_v, St.get, St.obj, look, rho, isNew, keptC, renH, Mode.ok, Mode.isZ, PV.isVal, PV.isNilSl, List.all_nil, List.all_cons, List.any_nil, List.any_cons, List.map_nil, List.map_cons, PV.Le_self, this]
      intro i j hi hj
      by_cases h1 : i = k
      · subst h1
        match j with
        | 0 => simp [setG, cellSet, NR, cut]; exact .refl _
        | 1 => simp [setG, cellSet, NR, cut, PV.Le_self]
        | 2 => simp [setG, cellSet, NR, cut, PV.Le_self]
        | j + 3 => omega
      · simp [setG, cellSet, h1]
        have e2 : (i < k + 1) = (i < k) := by apply propext; omega
        exact NR_le (by simp only [cut, e2]) (by simp only [cut, e2]) (fun _ _ => rfl) (by simp only [cut, e2]) (fun _ _ => rfl) (fun _ _ _ _ => rfl)
    · have : k = N := by omega
      subst this
      refine ResOk.mk [] [(0, 7)] [] _ _ ?_ ⟨rfl, rfl⟩
      simp [doneC, resOf, resAV, tup, pinR, PV.Le_self, hbs, St.lowers, St.lower, stLe, leEnv, leObs, obLe, injB, pinC, AV.leC, AV.leCs, PV.leC, PV.Le_v, St.get, St.obj, look, rho, isNew, keptC, renH, Mode.ok, Mode.isZ, PV.isVal, PV.isNilSl, List.all_nil, List.all_cons, List.any_nil, List.any_cons, List.map_nil, List.map_cons, res22]
      intro i j hi hj
      exact NR_le (by simp [cut, hi]) (by simp [cut, hi]) (fun _ _ => rfl) (by simp [cut, hi]) (fun _ _ => rfl) (fun _ _ _ _ => rfl)
theorem c_eqC (nn nn' : Bool) (N : Nat) (c : Ct) (hN : N ≤ 1048576) (hn : ∀ i, i < N → c.n i ≤ 1048576000) (hm : ∀ i, i < N → c.m i ≤ 1048576000) (hw : ∀ i j, i < N → j < c.m i → c.w i j ≤ 1048576000) : PRet Tryd.prog G0 25 [NL nn N c, NL nn' N c] (AB true) := by
  refine PRet.by chk25 (ev_eqC nn nn' N c) ?_
  simp only [VC.holds_split, VC.holds_need, VC.holds_doneP, VC.holds_done, VC.holds_either, VC.holds_call, VC.holds_callE, VC.holds_lend, VC.holds_stop, VC.holds_fail, decide_eq_true_eq, decide_eq_false_iff_not]
  refine ⟨fun h => by simp at h, fun h0 => loop_by (st_eqC nn nn' N c) (fun k => k ≤ N) (fun k => N - k) 0 [] [] [] (by omega) ?_ (evr_eqC nn nn' N c) fun k hk => ?_⟩
  · simp [st_eqC, hbs, St.lowers, St.lower, stLe, leEnv, leObs, obLe, injB, pinC, AV.leC, AV.leCs, PV.leC, PV.Le_v, St.get, St.obj, look, rho, isNew, keptC, renH, Mode.ok, Mode.isZ, PV.isVal, PV.isNilSl, List.all_nil, List.all_cons, List.any_nil, List.any_cons, List.map_nil, List.map_cons, PV.Le_self]
  · simp only [VC.holds_split, VC.holds_need, VC.holds_doneP, VC.holds_done, VC.holds_either, VC.holds_call, VC.holds_callE, VC.holds_lend, VC.holds_stop, VC.holds_fail, decide_eq_true_eq, decide_eq_false_iff_not, Int.toNat_natCast]
    refine ⟨fun h1 => ⟨by omega, by omega, c_eqN _ _ _ _ _ _ (hn k (by omega)) (hm k (by omega)) (fun j hj => hw k j (by omega) hj), Again.mk (k + 1) [] [] [] (by omega) (by omega) ?_⟩, fun h1 => ?_⟩
    · have : IntKind.i64.wrap ((k : Int) + 1) = ((k + 1 : Nat) : Int) := wrap_in (by omega) (by omega)
      simp [st_eqC, hbs, St.lowers, St.lower, stLe, leEnv, leObs, obLe, injB, pinC, AV.leC, AV.leCs, PV.leC, PV.Le_v, St.get, St.obj, look, rho, isNew, keptC, renH, Mode.ok, Mode.isZ, PV.isVal, PV.isNilSl, List.all_nil, List.all_cons, List.any_nil, List.any_cons, List.map_nil, List.map_cons, PV.Le_self, this]
    · simp
theorem c_mkC (nn : Bool) (N : Nat) (c : Ct) (v : Int) (hN : N ≤ 16777216) (hM : ∀ i, i < N → c.m i ≤ 16777216) (hs : sumN (mkE c) N ≤ 16777216) (hv1 : 0 ≤ v) (hv2 : v ≤ 134217728) : PObj Tryd.prog G0 26 [.own 0, AI v] [(0, Ob.row .u nn 3 N (NR c) [])] (AI (v + (sumN (mkE c) N : Nat))) [(0, Ob.row .u nn 3 N (NR (mkC c v N)) [])] := by
  refine PObj.by chk26 rfl (ev_mkC nn N c v) ?_
  refine loop_by (st_mkC nn N c v) (fun k => k ≤ N) (fun k => N - k) 0 [] [] [] (by omega) ?_ (evr_mkC nn N c v) fun k hk => ?_
  · simp [st_mkC, hbs, St.lowers, St.lower, stLe, leEnv, leObs, obLe, injB, pinC, AV.leC, AV.leCs, PV.leC, PV.Le_v, St.get, St.obj, look, rho, isNew, keptC, renH, Mode.ok, Mode.isZ, PV.isVal, PV.isNilSl, List.all_nil, List.all_cons, List.any_nil, List.any_cons, List.map_nil, List.map_cons, PV.Le_self, hbs, sumN]
    intro i j hi hj
    exact NR_le (by simp [mkC]) rfl (by simp [mkC]) rfl (fun _ _ => rfl) (by simp [mkC])
  · simp only [VC.holds_split, VC.holds_need, VC.holds_doneP, VC.holds_done, VC.holds_either, VC.holds_call, VC.holds_callE, VC.holds_lend, VC.holds_stop, VC.holds_fail, decide_eq_true_eq, decide_eq_false_iff_not, Int.toNat_natCast]
    refine ⟨fun h0 => ?_, fun h0 => ?_⟩
    · have h1 := sumN_le (w := mkE c) (n := N) (i := k) (by omega)
      have h2 := sumN_mono (w := mkE c) (n := N) (k := k) hk
      have h3 : (mkE c k : Nat) = 1 + c.n k + sumN (c.w k) (c.m k) := rfl
      have h4 := sumN_mono (w := mkE c) (n := N) (k := k + 1) (by omega)
      simp only [sumN] at h4
      have e0 : IntKind.i64.wrap (v + (sumN (mkE c) k : Int) + 1) = v + (sumN (mkE c) k : Int) + 1 := wrap_in (by omega) (by omega)
      rw [e0]
      have en : (mkC c v k).n k = c.n k := rfl
      have em : (mkC c v k).m k = c.m k := rfl
      have ew : (mkC c v k).w k = c.w k := rfl
      rw [en, em, ew]
      refine ⟨c_markT _ (by omega), by omega, by omega, by omega, by omega, c_mkT _ _ _ _ (by omega) (by omega) (by omega), by omega, by omega, c_mkR _ _ _ _ _ ?_ (by omega) (by omega) (by omega), Again.mk (k + 1) [] [] [] (by omega) (by omega) ?_⟩
      · exact hM k (by omega)
      · have e1 : IntKind.i64.wrap ((k : Int) + 1) = ((k + 1 : Nat) : Int) := wrap_in (by omega) (by omega)
        have e2 : v + (sumN (mkE c) k : Int) + 1 + (c.n k : Int) + (sumN (c.w k) (c.m k) : Nat) = v + (sumN (mkE c) (k + 1) : Nat) := by simp only [sumN, mkE]; omega
        simp [st_mkC, hbs, St.lowers, St.lower, stLe, leEnv, leObs, obLe, injB, pinC, AV.leC, AV.leCs, PV.leC, PV.Le_v, St.get, St.obj, look, rho, isNew, keptC, renH, Mode.ok, Mode.isZ, PV.isVal, PV.isNilSl, List.all_nil, List.all_cons, List.any_nil, List.any_cons, List.map_nil, List.map_cons, PV.Le_self, e1, e2, hbs]
        intro i j hi hj
        by_cases h5 : i = k
        · subst h5
          match j with
          | 0 => simp [setG, cellSet, NR, mkC]; exact .refl _
          | 1 => simp [setG, cellSet, NR, mkC, PV.Le_self]
          | 2 => simp [setG, cellSet, NR, mkC, PV.Le_self]
          | j + 3 => omega
        · simp [setG, cellSet, h5]
          have e3 : (i < k + 1) = (i < k) := by apply propext; omega
          exact NR_le (by simp only [mkC, e3]) rfl (fun _ _ => by simp only [mkC, e3]) rfl (fun _ _ => rfl) (fun _ _ _ _ => by simp only [mkC, e3])
    · have : k = N := by omega
      subst this
      refine ResOk.mk [] [(0, 100000)] [] _ _ ?_ ⟨rfl, rfl⟩
      simp [doneC, resOf, resAV, tup, pinR, PV.Le_self, hbs, St.lowers, St.lower, stLe, leEnv, leObs, obLe, injB, pinC, AV.leC, AV.leCs, PV.leC, PV.Le_v, St.get, St.obj, look, rho, isNew, keptC, renH, Mode.ok, Mode.isZ, PV.isVal, PV.isNilSl, List.all_nil, List.all_cons, List.any_nil, List.any_cons, List.map_nil, List.map_cons, res26, hbs]
/-- The place of a name. -/
abbrev eqT (a b : ByteArray) : Bool := a.toList == b.toList
def atT (nm : Nat → ByteArray) (x : ByteArray) : Nat → Int
  | 0 => -1
  | N + 1 => if 0 ≤ atT nm x N then atT nm x N else if eqT (nm N) x then (N : Int) else -1
theorem atT_lt (nm : Nat → ByteArray) (x : ByteArray) : ∀ N, -1 ≤ atT nm x N ∧ atT nm x N < N
  | 0 => by simp [atT]
  | N + 1 => by
    have := atT_lt nm x N
    simp only [atT]
    split
    · omega
    · split <;> omega
theorem atT_no {nm : Nat → ByteArray} {x : ByteArray} : ∀ {N : Nat}, (∀ j, j < N → eqT (nm j) x = false) → atT nm x N = -1
  | 0, _ => rfl
  | N + 1, h => by
    simp only [atT, atT_no (N := N) fun j hj => h j (by omega), h N (by omega)]
    simp
theorem atT_at {nm : Nat → ByteArray} {x : ByteArray} {k : Nat} (hk : eqT (nm k) x = true) (h : ∀ j, j < k → eqT (nm j) x = false) : ∀ {N : Nat}, k < N → atT nm x N = k
  | N + 1, hN => by
    by_cases h1 : k = N
    · subst h1
      simp only [atT, atT_no h, hk]
      simp
    · simp only [atT, atT_at (N := N) hk h (by omega)]
      rw [if_pos (by omega)]
theorem atT_neg {nm : Nat → ByteArray} {x : ByteArray} : ∀ {N : Nat}, atT nm x N < 0 → ∀ j, j < N → eqT (nm j) x = false
  | N + 1, h, j, hj => by
    simp only [atT] at h
    split at h
    · omega
    · rename_i h1
      split at h
      · omega
      · rename_i h2
        by_cases h3 : j = N
        · subst h3; simpa using h2
        · exact atT_neg (N := N) (by omega) j (by omega)
theorem atT_pos {nm : Nat → ByteArray} {x : ByteArray} : ∀ {N : Nat}, 0 ≤ atT nm x N → eqT (nm (atT nm x N).toNat) x = true ∧ ∀ j, j < (atT nm x N).toNat → eqT (nm j) x = false
  | 0, h => by simp [atT] at h
  | N + 1, h => by
    simp only [atT] at h ⊢
    split
    · rename_i h1; exact atT_pos h1
    · rename_i h1
      rw [if_neg h1] at h
      split
      · rename_i h2
        exact ⟨by simpa using h2, fun j hj => atT_neg (N := N) (by omega) j (by simpa using hj)⟩
      · rename_i h2; rw [if_neg h2] at h; omega
theorem c_ixN (nn : Bool) (N : Nat) (c : Ct) (x : ByteArray) (hN : N ≤ 1048576) : PObj Tryd.prog G0 140 [NL nn N c, findFn] [(0, Ob.box [AT x])] (AI (atT c.nm x N)) [(0, Ob.box [AT x])] := by
  refine PObj.by chk140 rfl (ev_ixN nn N c x) ?_
  refine loop_by (st_ixN nn N c x) (fun k => k ≤ N ∧ ∀ j, j < k → eqT (c.nm j) x = false) (fun k => N - k) 0 [] [] [] (by simp) ?_ (evr_ixN nn N c x) fun k hk => ?_
  · simp [st_ixN, hbs, St.lowers, St.lower, stLe, leEnv, leObs, obLe, injB, pinC, AV.leC, AV.leCs, PV.leC, PV.Le_v, St.get, St.obj, look, rho, isNew, keptC, renH, Mode.ok, Mode.isZ, PV.isVal, PV.isNilSl, List.all_nil, List.all_cons, List.any_nil, List.any_cons, List.map_nil, List.map_cons, PV.Le_self, hbs]
  · obtain ⟨hk, hall⟩ := hk
    simp only [VC.holds_split, VC.holds_need, VC.holds_doneP, VC.holds_done, VC.holds_either, VC.holds_call, VC.holds_callE, VC.holds_lend, VC.holds_stop, VC.holds_fail, decide_eq_true_eq, decide_eq_false_iff_not, Int.toNat_natCast]
    refine ⟨fun h1 => ⟨by omega, c_lamN _ _ _ _ _ _ _, fun h2 => ?_, fun h2 => Again.mk (k + 1) [] [] [] ⟨by omega, fun j hj => ?_⟩ (by omega) ?_⟩, fun h1 => ?_⟩
    · rw [atT_at h2 hall (by omega)]
      refine ResOk.mk [] [(0, 100000)] [] _ _ ?_ ⟨rfl, rfl⟩
      simp [doneC, resOf, resAV, tup, pinR, PV.Le_self, hbs, St.lowers, St.lower, stLe, leEnv, leObs, obLe, injB, pinC, AV.leC, AV.leCs, PV.leC, PV.Le_v, St.get, St.obj, look, rho, isNew, keptC, renH, Mode.ok, Mode.isZ, PV.isVal, PV.isNilSl, List.all_nil, List.all_cons, List.any_nil, List.any_cons, List.map_nil, List.map_cons, res140, hbs]
    · by_cases h3 : j = k
      · subst h3; exact h2
      · exact hall j (by omega)
    · have e1 : IntKind.i64.wrap ((k : Int) + 1) = ((k + 1 : Nat) : Int) := wrap_in (by omega) (by omega)
      simp [st_ixN, hbs, St.lowers, St.lower, stLe, leEnv, leObs, obLe, injB, pinC, AV.leC, AV.leCs, PV.leC, PV.Le_v, St.get, St.obj, look, rho, isNew, keptC, renH, Mode.ok, Mode.isZ, PV.isVal, PV.isNilSl, List.all_nil, List.all_cons, List.any_nil, List.any_cons, List.map_nil, List.map_cons, PV.Le_self, e1, hbs]
    · have : k = N := by omega
      subst this
      rw [atT_no hall]
      refine ResOk.mk [] [(0, 100000)] [] _ _ ?_ ⟨rfl, rfl⟩
      simp [doneC, resOf, resAV, tup, pinR, PV.Le_self, hbs, St.lowers, St.lower, stLe, leEnv, leObs, obLe, injB, pinC, AV.leC, AV.leCs, PV.leC, PV.Le_v, St.get, St.obj, look, rho, isNew, keptC, renH, Mode.ok, Mode.isZ, PV.isVal, PV.isNilSl, List.all_nil, List.all_cons, List.any_nil, List.any_cons, List.map_nil, List.map_cons, res140, hbs]
def in_tAt (nn : Bool) (N : Nat) (c : Ct) (x : ByteArray) := (G0, res74, ([] : List (Nat × Ob)), [Item.ir ir74], start [NL nn N c, AT x] [])
theorem ev_tAt : ∀ (nn : Bool) (N : Nat) (c : Ct) (x : ByteArray),
  ev G0 res74 [] (3000 : Nat) (Or.call [(3 : Nat)] (AI (atT c.nm x N)) [((0 : Nat), Ob.box [AT x])] Or.nil)
      [Item.ir ir74] (start [NL nn N c, AT x] []) =
    VC.call (140 : Nat) [AV.p false (PV.sl nn (3 : Nat) N (NR c)), AV.cl (141 : Nat) [] [AV.adr (0 : Nat) (0 : Nat)]]
      [((0 : Nat), Ob.box [AV.p true (PV.v (Value.string x))])] (AI (atT c.nm x N)) [((0 : Nat), Ob.box [AT x])]
      (VC.doneP (AV.p true (PV.v (Value.int IntKind.i64 (atT c.nm x N))))) := by
  intros; kernel_rfl
end Go.Gw
