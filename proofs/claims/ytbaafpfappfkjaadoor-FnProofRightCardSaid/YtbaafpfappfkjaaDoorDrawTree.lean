/- Trees of tags drawn; with no condition. -/
import Derived.Test.YtbaafpfappfkjaaDoorDrawTags
import Derived.Test.YtbaafpfappfkjaaDoorProofRight
import Derived.Test.YtbaafpfappfkjaaDoorSame
import Derived.KernelRfl
namespace Go.Gw
open Go Go.Proofs
set_option linter.unusedSimpArgs false
set_option linter.unusedVariables false
set_option maxRecDepth 100000
def ir55_L1 : Ir :=
  (.seq
  (.seq
  (.reg [13] [o 13 (.mov (tt 6)),
    o 14 (.bin .gtr (tt 13) (ci 0))])
  (.cond (tt 14)
   .skip
   (.exit 0)))
  (.seq
  (.block 1
   (.reg [17, 18, 19, 20, 21, 22] [o 17 (.mov (tt 5)),
     o 18 (.mov (tt 0)),
     o 19 (.call 42 [(tt 18), (ci 256)]),
     o 20 (.bin .mul (tt 19) (ci 780)),
     o 21 (.mkSl 1 1 [(.int .i64 0)] [(0, (tt 20))]),
     o 22 (.app 1 8 true (tt 17) (tt 21)),
     o 5 (.mov (tt 22))]))
  (.reg [15, 16] [o 15 (.mov (tt 6)),
    o 16 (.bin .sub (tt 15) (ci 1)),
    o 6 (.mov (tt 16))])))
def ir55_T2 : Ir :=
  (.seq
  (.seq
  (.reg [23, 24] [o 23 (.mov (tt 0)),
    o 24 (.mov (tt 1)),
    o 25 (.call 61 [(tt 23), (tt 24)])])
  (.cond (tt 25)
   (.seq
   (.reg [26] [o 26 (.mov (tt 0)),
     o 27 (.call 42 [(tt 26), (ci 3)])])
   (.block 2
    (.seq
    (.reg [30] [o 30 (.bin .eql (tt 27) (ci 0)),
      o 29 (.mov (tt 30))])
    (.cond (tt 29)
     (.reg [31, 32, 33] [o 31 (.mov (tt 5)),
       o 32 (.mkSl 1 3 [(.int .i64 0)] [(0, (ci 5)), (1, (ci 6)), (2, (ci 7))]),
       o 33 (.app 1 8 true (tt 31) (tt 32)),
       o 5 (.mov (tt 33))])
     (.seq
     (.reg [35] [o 35 (.bin .eql (tt 27) (ci 1)),
       o 34 (.mov (tt 35))])
     (.cond (tt 34)
      (.reg [36, 37, 38, 39, 40, 41, 42] [o 36 (.mov (tt 5)),
        o 37 (.mkSl 1 2 [(.int .i64 0)] [(0, (ci (-1))), (1, (ci 200003))]),
        o 38 (.mov (tt 0)),
        o 39 (.call 42 [(tt 38), (ci 2)]),
        o 40 (.idx 1 (tt 37) (tt 39)),
        o 41 (.load false 1 (tt 40)),
        o 42 (.idx 1 (tt 36) (ci 0)),
        on (.store 1 (tt 42) (tt 41))])
      (.reg [28] [o 28 (.mkSl 1 0 [(.int .i64 0)] []),
        o 5 (.mov (tt 28))])))))))
   .skip))
  (.seq
  (.reg [43] [o 43 (.mov (tt 5)),
    o 4 (.mov (tt 43))])
  .ret))
def ir55 : Ir :=
  (.seq
  (.reg [] [o 4 (.mov (.const (.slice none 0 0)))])
  (.seq
  (.reg [7] [o 7 (.mkSl 1 0 [(.int .i64 0)] []),
    o 5 (.mov (tt 7))])
  (.seq
  (.seq
  (.reg [8, 9, 10, 11, 12] [o 8 (.mkSl 1 5 [(.int .i64 0)] [(0, (ci 1)), (1, (ci 2)), (2, (ci 4)), (3, (ci 8)), (4, (ci 16))]),
    o 9 (.mov (tt 0)),
    o 10 (.call 42 [(tt 9), (ci 5)]),
    o 11 (.idx 1 (tt 8) (tt 10)),
    o 12 (.load false 1 (tt 11)),
    o 6 (.mov (tt 12))])
  (.block 0
   (.loop ir55_L1)))
  ir55_T2)))
def keep55 : List Nat := [0, 1, 4, 5, 6, 14, 25, 27, 29, 34]
def res55 : List RI := [.tmp 4]
theorem chk55 : chk Tryd.prog 55 2 keep55 = some (ir55, res55) := by kernel_rfl
def ir32 : Ir :=
  (.seq
  (.reg [] [o 2 (.mov (.const (.slice none 0 0)))])
  (.seq
  (.reg [3, 4, 5] [o 3 (.mov (tt 0)),
    o 4 (.call 41 [(tt 3)]),
    o 5 (.call 55 [(tt 4), (ci 6)]),
    o 2 (.mov (tt 5))])
  .ret))
def keep32 : List Nat := [0, 2]
def res32 : List RI := [.tmp 2]
theorem chk32 : chk Tryd.prog 32 1 keep32 = some (ir32, res32) := by kernel_rfl
def ir37 : Ir :=
  (.seq
  (.reg [] [o 2 (.mov (.const (.slice none 0 0))),
    o 3 (.mov (ci 0))])
  (.seq
  (.reg [6, 7] [o 6 (.mov (tt 0)),
    o 7 (.call 41 [(tt 6)]),
    o 4 (.mov (tt 7))])
  (.seq
  (.reg [8, 9] [o 8 (.mov (tt 4)),
    o 9 (.call 55 [(tt 8), (ci 9)]),
    o 5 (.mov (tt 9))])
  (.seq
  (.reg [10, 11, 12, 13, 14, 15, 16, 17, 18, 19, 20, 21, 22, 23, 24, 25, 26] [o 10 (.mov (tt 5)),
    o 11 (.mov (tt 4)),
    o 12 (.mov (tt 5)),
    o 13 (.len (tt 12)),
    o 14 (.mm true (ci 1) (tt 13)),
    o 15 (.call 42 [(tt 11), (tt 14)]),
    o 16 (.mov (tt 4)),
    o 17 (.call 42 [(tt 16), (ci 14)]),
    o 18 (.bin .quo (tt 17) (ci 13)),
    o 19 (.mov (tt 5)),
    o 20 (.len (tt 19)),
    o 21 (.bin .mul (tt 18) (tt 20)),
    o 22 (.bin .add (tt 15) (tt 21)),
    o 23 (.mov (tt 4)),
    o 24 (.call 42 [(tt 23), (ci 14)]),
    o 25 (.bin .quo (tt 24) (ci 13)),
    o 26 (.bin .sub (tt 22) (tt 25)),
    o 2 (.mov (tt 10)),
    o 3 (.mov (tt 26))])
  .ret))))
def keep37 : List Nat := [0, 2, 3, 4, 5]
def res37 : List RI := [.tmp 2, .tmp 3]
theorem chk37 : chk Tryd.prog 37 1 keep37 = some (ir37, res37) := by kernel_rfl
def ir39 : Ir :=
  (.seq
  (.reg [] [o 2 (.mov (ci 0)),
    o 3 (.mov (ci 0)),
    o 4 (.mov (ci 0)),
    o 5 (.mov (.const (.slice none 0 0)))])
  (.seq
  (.reg [13, 14] [o 13 (.mov (tt 0)),
    o 14 (.call 41 [(tt 13)]),
    o 6 (.mov (tt 14))])
  (.seq
  (.reg [15, 16] [o 15 (.mov (tt 6)),
    o 16 (.call 55 [(tt 15), (ci 0)]),
    o 7 (.mov (tt 16))])
  (.seq
  (.reg [17, 18, 19, 20] [o 17 (.mov (tt 6)),
    o 18 (.mov (tt 7)),
    o 19 (.len (tt 18)),
    o 20 (.call 42 [(tt 17), (tt 19)]),
    o 8 (.mov (tt 20))])
  (.seq
  (.reg [22, 23, 24, 21, 25, 26, 10] [o 22 (.mov (tt 7)),
    o 23 (.mov (tt 8)),
    o 24 (.call 38 [(tt 22), (tt 23)]),
    o 21 (.mov (tt 24)),
    o 25 (.ext (tt 21) 0),
    o 26 (.ext (tt 21) 1),
    o 9 (.mov (tt 25)),
    o 10 (.mov (tt 26))])
  (.seq
  (.reg [27, 28] [o 27 (.mov (tt 7)),
    o 28 (.call 34 [(tt 27)]),
    o 11 (.mov (tt 28))])
  (.seq
  (.reg [29, 30, 31, 32] [o 29 (.mov (tt 7)),
    o 30 (.mov (tt 8)),
    o 31 (.idx 1 (tt 29) (tt 30)),
    o 32 (.load false 1 (tt 31)),
    o 12 (.mov (tt 32))])
  (.seq
  (.seq
  (.reg [33] [o 33 (.mov (tt 6)),
    o 34 (.call 61 [(tt 33), (ci 3)])])
  (.cond (tt 34)
   (.seq
   (.reg [35] [o 35 (.mov (tt 6)),
     o 36 (.call 42 [(tt 35), (ci 5)])])
   (.block 0
    (.seq
    (.reg [52] [o 52 (.bin .eql (tt 36) (ci 0)),
      o 51 (.mov (tt 52))])
    (.cond (tt 51)
     (.reg [53, 54] [o 53 (.mov (tt 11)),
       o 54 (.bin .add (tt 53) (ci 1)),
       o 11 (.mov (tt 54))])
     (.seq
     (.reg [56] [o 56 (.bin .eql (tt 36) (ci 1)),
       o 55 (.mov (tt 56))])
     (.cond (tt 55)
      (.reg [57, 58, 59, 60, 61, 62, 63, 64, 65] [o 57 (.mov (tt 8)),
        o 58 (.mov (tt 7)),
        o 59 (.len (tt 58)),
        o 60 (.mkSl 1 3 [(.int .i64 0)] [(0, (ci 1)), (1, (ci (-1))), (2, (tt 59))]),
        o 61 (.mov (tt 6)),
        o 62 (.call 42 [(tt 61), (ci 3)]),
        o 63 (.idx 1 (tt 60) (tt 62)),
        o 64 (.load false 1 (tt 63)),
        o 65 (.bin .add (tt 57) (tt 64)),
        o 8 (.mov (tt 65))])
      (.seq
      (.reg [67] [o 67 (.bin .eql (tt 36) (ci 2)),
        o 66 (.mov (tt 67))])
      (.cond (tt 66)
       (.reg [68, 69, 70, 71, 72, 73, 74] [o 68 (.mov (tt 12)),
         o 69 (.bin .add (tt 68) (ci 1)),
         o 70 (.mkSl 1 3 [(.int .i64 0)] [(0, (tt 69)), (1, (ci (-1))), (2, (ci 200003))]),
         o 71 (.mov (tt 6)),
         o 72 (.call 42 [(tt 71), (ci 3)]),
         o 73 (.idx 1 (tt 70) (tt 72)),
         o 74 (.load false 1 (tt 73)),
         o 12 (.mov (tt 74))])
       (.seq
       (.reg [76] [o 76 (.bin .eql (tt 36) (ci 3)),
         o 75 (.mov (tt 76))])
       (.cond (tt 75)
        (.reg [77, 78, 79] [o 77 (.mov (tt 9)),
          o 78 (.mkSl 1 1 [(.int .i64 0)] [(0, (ci 5))]),
          o 79 (.app 1 8 true (tt 77) (tt 78)),
          o 9 (.mov (tt 79))])
        (.seq
        (.reg [37, 38] [o 37 (.mov (tt 9)),
          o 38 (.len (tt 37)),
          o 39 (.bin .gtr (tt 38) (ci 0))])
        (.cond (tt 39)
         (.reg [40, 41, 42, 43, 44, 45, 46, 47, 48, 49, 50] [o 40 (.mov (tt 9)),
           o 41 (.mov (tt 6)),
           o 42 (.mov (tt 9)),
           o 43 (.len (tt 42)),
           o 44 (.call 42 [(tt 41), (tt 43)]),
           o 45 (.mkSl 1 3 [(.int .i64 0)] [(0, (ci (-1))), (1, (ci 5)), (2, (ci 200003))]),
           o 46 (.mov (tt 6)),
           o 47 (.call 42 [(tt 46), (ci 3)]),
           o 48 (.idx 1 (tt 45) (tt 47)),
           o 49 (.load false 1 (tt 48)),
           o 50 (.idx 1 (tt 40) (tt 44)),
           on (.store 1 (tt 50) (tt 49))])
         .skip))))))))))))
   .skip))
  (.seq
  (.reg [80, 81, 82, 83] [o 80 (.mov (tt 11)),
    o 81 (.mov (tt 8)),
    o 82 (.mov (tt 12)),
    o 83 (.mov (tt 9)),
    o 2 (.mov (tt 80)),
    o 3 (.mov (tt 81)),
    o 4 (.mov (tt 82)),
    o 5 (.mov (tt 83))])
  .ret)))))))))
def keep39 : List Nat := [0, 2, 3, 4, 5, 6, 7, 8, 9, 11, 12, 34, 36, 39, 51, 55, 66, 75]
def res39 : List RI := [.tmp 2, .tmp 3, .tmp 4, .tmp 5]
theorem chk39 : chk Tryd.prog 39 1 keep39 = some (ir39, res39) := by kernel_rfl

def in_dT (nn : Bool) (n : Nat) (f : Nat → Int) (p : Nat) (m : Int) := (G0, res55, [(0, RD nn n f p)], [Item.ir ir55], start [.adr 0 0, AI m] [(0, RD nn n f p)])
theorem ev_dT : ∀ (nn : Bool) (n : Nat) (f : Nat → Int) (p : Nat) (m : Int),
  ev G0 res55 [((0 : Nat), RD nn n f p)] (3000 : Nat)
      (Or.call [(100000 : Nat)] (AI (pickV n f p (5 : Int))) [((0 : Nat), RD nn n f (p + (1 : Nat)))] Or.nil)
      [Item.ir ir55] (start [AV.adr (0 : Nat) (0 : Nat), AI m] [((0 : Nat), RD nn n f p)]) =
    VC.call (42 : Nat) [AV.adr (0 : Nat) (0 : Nat), AV.p true (PV.v (Value.int IntKind.i64 (5 : Int)))]
      [((0 : Nat),
          Ob.box [AV.p false (PV.sl nn (1 : Nat) n (PB f)), AV.p true (PV.v (Value.int IntKind.i64 (↑p : Int)))])]
      (AI (pickV n f p (5 : Int))) [((0 : Nat), RD nn n f (p + (1 : Nat)))]
      (VC.need ((0 : Int) ≤ pickV n f p (5 : Int) ∧ (pickV n f p (5 : Int)).toNat < (5 : Nat))
        (VC.need ((pickV n f p (5 : Int)).toNat < (5 : Nat))
          (VC.loop ir55_L1 [Item.bend (0 : Nat), Item.ir ir55_T2]
            {
              env :=
                [((0 : Nat), AV.adr (100000 : Nat) (0 : Nat)), ((1 : Nat), AV.p true (PV.v (Value.int IntKind.i64 m))),
                  ((4 : Nat), AV.p true (PV.v (Value.slice none (0 : Nat) (0 : Nat)))), ((5 : Nat), AV.own (7 : Nat)),
                  ((6 : Nat),
                    AV.p true
                      (PV.v
                        (Value.int IntKind.i64
                          (litI [(1 : Int), (2 : Int), (4 : Int), (8 : Int), (16 : Int)]
                            (pickV n f p (5 : Int)).toNat))))],
              H :=
                [((100000 : Nat),
                    Ob.box
                      [AV.p false (PV.sl nn (1 : Nat) n (PB f)),
                        AV.p true (PV.v (Value.int IntKind.i64 (↑(p + (1 : Nat)) : Int)))]),
                  ((7 : Nat),
                    Ob.row Mode.u true (1 : Nat) (0 : Nat)
                      (setG [] fun (x j : Nat) => PV.v ([Value.int IntKind.i64 (0 : Int)].getD j undef)) [])] }))) := by
  intros; kernel_rfl
def tagD (n : Nat) (f : Nat → Int) (p : Nat) (j : Nat) : Int := pickV n f (p + j) 256 * 780
def st_dT (nn : Bool) (n : Nat) (f : Nat → Int) (p : Nat) (m K : Int) (j : Nat) : St := ⟨[(0, .adr 100000 0), (1, AI m), (5, .own 7), (6, AI (K - j))], [(100000, RD nn n f (p + j)), (7, .row .u true 1 j (fun i _ => PI (tagD n f p i)) [])]⟩
def r_dT (nn : Bool) (n : Nat) (f : Nat → Int) (p0 p : Nat) (m K : Int) (I : Nat → St → Prop) (j : Nat) := (G0, res55, [(0, RD nn n f p0)], [Item.ir ir55_L1, .lend (I j), Item.bend 0, Item.ir ir55_T2], st_dT nn n f p m K j)
theorem evr_dT : ∀ (nn : Bool) (n : Nat) (f : Nat → Int) (p0 p : Nat) (m K : Int) (I : Nat → St → Prop) (j : Nat),
  ev G0 res55 [((0 : Nat), RD nn n f p0)] (3000 : Nat)
      ((Or.call [(100000 : Nat)] (AI (pickV n f (p + j) (256 : Int))) [((0 : Nat), RD nn n f (p + j + (1 : Nat)))]
            Or.nil).split
        (Or.call [(100000 : Nat)] (AB (oddV n f (p + j) m)) [((0 : Nat), RD nn n f (oddP (p + j) m))]
          ((Or.call [(100000 : Nat)] (AI (pickV n f (oddP (p + j) m) (3 : Int)))
                [((0 : Nat), RD nn n f (oddP (p + j) m + (1 : Nat)))]
                (Or.nil.split
                  ((Or.call [(100000 : Nat)] (AI (pickV n f (oddP (p + j) m + (1 : Nat)) (2 : Int)))
                        [((0 : Nat), RD nn n f (oddP (p + j) m + (1 : Nat) + (1 : Nat)))] Or.nil).split
                    Or.nil))).split
            Or.nil)))
      [Item.ir ir55_L1, Item.lend (I j), Item.bend (0 : Nat), Item.ir ir55_T2] (st_dT nn n f p m K j) =
    VC.split (decide ((0 : Int) < K - (↑j : Int)))
      (VC.call (42 : Nat) [AV.adr (0 : Nat) (0 : Nat), AV.p true (PV.v (Value.int IntKind.i64 (256 : Int)))]
        [((0 : Nat),
            Ob.box
              [AV.p false (PV.sl nn (1 : Nat) n (PB f)), AV.p true (PV.v (Value.int IntKind.i64 (↑(p + j) : Int)))])]
        (AI (pickV n f (p + j) (256 : Int))) [((0 : Nat), RD nn n f (p + j + (1 : Nat)))]
        (VC.need
          (((j + (1 : Nat)) * (8 : Nat) ≤ (140737488355328 : Nat) ∧
              (↑(j + (1 : Nat)) : Int) ≤ (9223372036854775807 : Int)) ∧
            allV (1 : Nat) (1 : Nat)
              (setG
                [((0 : Nat), (0 : Nat),
                    PV.v (Value.int IntKind.i64 (IntKind.i64.wrap (pickV n f (p + j) (256 : Int) * (780 : Int)))))]
                fun (x j_1 : Nat) => PV.v ([Value.int IntKind.i64 (0 : Int)].getD j_1 undef)))
          (VC.lend (I j)
            {
              env :=
                [((0 : Nat), AV.adr (100000 : Nat) (0 : Nat)), ((1 : Nat), AV.p true (PV.v (Value.int IntKind.i64 m))),
                  ((5 : Nat), AV.own (22 : Nat)),
                  ((6 : Nat), AV.p true (PV.v (Value.int IntKind.i64 (IntKind.i64.wrap (K - (↑j : Int) - (1 : Int)))))),
                  ((14 : Nat), AV.p true (PV.v (Value.bool (decide ((0 : Int) < K - (↑j : Int))))))],
              H :=
                [((100000 : Nat),
                    Ob.box
                      [AV.p false (PV.sl nn (1 : Nat) n (PB f)),
                        AV.p true (PV.v (Value.int IntKind.i64 (↑(p + j + (1 : Nat)) : Int)))]),
                  ((22 : Nat),
                    Ob.row Mode.u true (1 : Nat) (j + (1 : Nat))
                      (fun (a b : Nat) =>
                        if a < j then PI (tagD n f p a)
                        else
                          setG
                            [((0 : Nat), (0 : Nat),
                                PV.v
                                  (Value.int IntKind.i64
                                    (IntKind.i64.wrap (pickV n f (p + j) (256 : Int) * (780 : Int)))))]
                            (fun (x j_1 : Nat) => PV.v ([Value.int IntKind.i64 (0 : Int)].getD j_1 undef)) (a - j) b)
                      [])] })))
      (VC.call (61 : Nat) [AV.adr (0 : Nat) (0 : Nat), AV.p true (PV.v (Value.int IntKind.i64 m))]
        [((0 : Nat),
            Ob.box
              [AV.p false (PV.sl nn (1 : Nat) n (PB f)), AV.p true (PV.v (Value.int IntKind.i64 (↑(p + j) : Int)))])]
        (AB (oddV n f (p + j) m)) [((0 : Nat), RD nn n f (oddP (p + j) m))]
        (VC.split (oddV n f (p + j) m)
          (VC.call (42 : Nat) [AV.adr (0 : Nat) (0 : Nat), AV.p true (PV.v (Value.int IntKind.i64 (3 : Int)))]
            [((0 : Nat),
                Ob.box
                  [AV.p false (PV.sl nn (1 : Nat) n (PB f)),
                    AV.p true (PV.v (Value.int IntKind.i64 (↑(oddP (p + j) m) : Int)))])]
            (AI (pickV n f (oddP (p + j) m) (3 : Int))) [((0 : Nat), RD nn n f (oddP (p + j) m + (1 : Nat)))]
            (VC.split (pickV n f (oddP (p + j) m) (3 : Int) == (0 : Int))
              (VC.need
                (((j + (3 : Nat)) * (8 : Nat) ≤ (140737488355328 : Nat) ∧
                    (↑(j + (3 : Nat)) : Int) ≤ (9223372036854775807 : Int)) ∧
                  allV (1 : Nat) (3 : Nat) fun (i x : Nat) =>
                    PV.v (Value.int IntKind.i64 (litI [(5 : Int), (6 : Int), (7 : Int)] i)))
                (VC.done
                  {
                    env :=
                      [((0 : Nat), AV.adr (100000 : Nat) (0 : Nat)),
                        ((1 : Nat), AV.p true (PV.v (Value.int IntKind.i64 m))), ((5 : Nat), AV.own (33 : Nat)),
                        ((6 : Nat), AV.p true (PV.v (Value.int IntKind.i64 (K - (↑j : Int))))),
                        ((14 : Nat), AV.p true (PV.v (Value.bool (decide ((0 : Int) < K - (↑j : Int)))))),
                        ((25 : Nat), AV.p true (PV.v (Value.bool (oddV n f (p + j) m)))),
                        ((27 : Nat), AV.p true (PV.v (Value.int IntKind.i64 (pickV n f (oddP (p + j) m) (3 : Int))))),
                        ((29 : Nat), AV.p true (PV.v (Value.bool (pickV n f (oddP (p + j) m) (3 : Int) == (0 : Int))))),
                        ((4 : Nat), AV.own (33 : Nat))],
                    H :=
                      [((100000 : Nat),
                          Ob.box
                            [AV.p false (PV.sl nn (1 : Nat) n (PB f)),
                              AV.p true (PV.v (Value.int IntKind.i64 (↑(oddP (p + j) m + (1 : Nat)) : Int)))]),
                        ((33 : Nat),
                          Ob.row Mode.u true (1 : Nat) (j + (3 : Nat))
                            (fun (a b : Nat) =>
                              if a < j then PI (tagD n f p a)
                              else PV.v (Value.int IntKind.i64 (litI [(5 : Int), (6 : Int), (7 : Int)] (a - j))))
                            [])] }))
              (VC.split (pickV n f (oddP (p + j) m) (3 : Int) == (1 : Int))
                (VC.call (42 : Nat) [AV.adr (0 : Nat) (0 : Nat), AV.p true (PV.v (Value.int IntKind.i64 (2 : Int)))]
                  [((0 : Nat),
                      Ob.box
                        [AV.p false (PV.sl nn (1 : Nat) n (PB f)),
                          AV.p true (PV.v (Value.int IntKind.i64 (↑(oddP (p + j) m + (1 : Nat)) : Int)))])]
                  (AI (pickV n f (oddP (p + j) m + (1 : Nat)) (2 : Int)))
                  [((0 : Nat), RD nn n f (oddP (p + j) m + (1 : Nat) + (1 : Nat)))]
                  (VC.need
                    ((0 : Int) ≤ pickV n f (oddP (p + j) m + (1 : Nat)) (2 : Int) ∧
                      (pickV n f (oddP (p + j) m + (1 : Nat)) (2 : Int)).toNat < (2 : Nat))
                    (VC.need ((pickV n f (oddP (p + j) m + (1 : Nat)) (2 : Int)).toNat < (2 : Nat))
                      (VC.need ((0 : Int) ≤ (0 : Int) ∧ Int.toNat (0 : Int) < j)
                        (VC.need ((0 : Nat) < j)
                          (VC.done
                            {
                              env :=
                                [((0 : Nat), AV.adr (100000 : Nat) (0 : Nat)),
                                  ((1 : Nat), AV.p true (PV.v (Value.int IntKind.i64 m))),
                                  ((5 : Nat), AV.own (7 : Nat)),
                                  ((6 : Nat), AV.p true (PV.v (Value.int IntKind.i64 (K - (↑j : Int))))),
                                  ((14 : Nat), AV.p true (PV.v (Value.bool (decide ((0 : Int) < K - (↑j : Int)))))),
                                  ((25 : Nat), AV.p true (PV.v (Value.bool (oddV n f (p + j) m)))),
                                  ((27 : Nat),
                                    AV.p true (PV.v (Value.int IntKind.i64 (pickV n f (oddP (p + j) m) (3 : Int))))),
                                  ((29 : Nat),
                                    AV.p true (PV.v (Value.bool (pickV n f (oddP (p + j) m) (3 : Int) == (0 : Int))))),
                                  ((34 : Nat),
                                    AV.p true (PV.v (Value.bool (pickV n f (oddP (p + j) m) (3 : Int) == (1 : Int))))),
                                  ((4 : Nat), AV.own (7 : Nat))],
                              H :=
                                [((100000 : Nat),
                                    Ob.box
                                      [AV.p false (PV.sl nn (1 : Nat) n (PB f)),
                                        AV.p true
                                          (PV.v
                                            (Value.int IntKind.i64
                                              (↑(oddP (p + j) m + (1 : Nat) + (1 : Nat)) : Int)))]),
                                  ((7 : Nat),
                                    Ob.row Mode.u true (1 : Nat) j
                                      (setG
                                        [((0 : Nat), (0 : Nat),
                                            PV.v
                                              (Value.int IntKind.i64
                                                (litI [(-1 : Int), (200003 : Int)]
                                                  (pickV n f (oddP (p + j) m + (1 : Nat)) (2 : Int)).toNat)))]
                                        fun (i x : Nat) => PI (tagD n f p i))
                                      [])] }))))))
                (VC.done
                  {
                    env :=
                      [((0 : Nat), AV.adr (100000 : Nat) (0 : Nat)),
                        ((1 : Nat), AV.p true (PV.v (Value.int IntKind.i64 m))), ((5 : Nat), AV.own (28 : Nat)),
                        ((6 : Nat), AV.p true (PV.v (Value.int IntKind.i64 (K - (↑j : Int))))),
                        ((14 : Nat), AV.p true (PV.v (Value.bool (decide ((0 : Int) < K - (↑j : Int)))))),
                        ((25 : Nat), AV.p true (PV.v (Value.bool (oddV n f (p + j) m)))),
                        ((27 : Nat), AV.p true (PV.v (Value.int IntKind.i64 (pickV n f (oddP (p + j) m) (3 : Int))))),
                        ((29 : Nat), AV.p true (PV.v (Value.bool (pickV n f (oddP (p + j) m) (3 : Int) == (0 : Int))))),
                        ((34 : Nat), AV.p true (PV.v (Value.bool (pickV n f (oddP (p + j) m) (3 : Int) == (1 : Int))))),
                        ((4 : Nat), AV.own (28 : Nat))],
                    H :=
                      [((100000 : Nat),
                          Ob.box
                            [AV.p false (PV.sl nn (1 : Nat) n (PB f)),
                              AV.p true (PV.v (Value.int IntKind.i64 (↑(oddP (p + j) m + (1 : Nat)) : Int)))]),
                        ((28 : Nat),
                          Ob.row Mode.u true (1 : Nat) (0 : Nat)
                            (setG [] fun (x j_1 : Nat) => PV.v ([Value.int IntKind.i64 (0 : Int)].getD j_1 undef))
                            [])] }))))
          (VC.done
            {
              env :=
                [((0 : Nat), AV.adr (100000 : Nat) (0 : Nat)), ((1 : Nat), AV.p true (PV.v (Value.int IntKind.i64 m))),
                  ((5 : Nat), AV.own (7 : Nat)), ((6 : Nat), AV.p true (PV.v (Value.int IntKind.i64 (K - (↑j : Int))))),
                  ((14 : Nat), AV.p true (PV.v (Value.bool (decide ((0 : Int) < K - (↑j : Int)))))),
                  ((25 : Nat), AV.p true (PV.v (Value.bool (oddV n f (p + j) m)))), ((4 : Nat), AV.own (7 : Nat))],
              H :=
                [((100000 : Nat),
                    Ob.box
                      [AV.p false (PV.sl nn (1 : Nat) n (PB f)),
                        AV.p true (PV.v (Value.int IntKind.i64 (↑(oddP (p + j) m) : Int)))]),
                  ((7 : Nat), Ob.row Mode.u true (1 : Nat) j (fun (i x : Nat) => PI (tagD n f p i)) [])] }))) := by
  intros; kernel_rfl
abbrev TD := Nat × Nat × (Nat → Int)
abbrev tdR (x : TD) : AV := .p true (.sl false 1 x.2.1 (fun i _ => PI (x.2.2 i)))
abbrev tdH (nn : Bool) (n : Nat) (f : Nat → Int) (x : TD) : List (Nat × Ob) := [(0, RD nn n f x.1)]
theorem tree_done {nn : Bool} {n : Nat} {f : Nat → Int} {p : Nat} {m : Int} {s : St} {q N p' : Nat} {b : Bool} {F : Nat → Nat → PV} (F' : Nat → Int) (h0 : s.get 4 = .own q) (h2 : look s.H 100000 = some (RD nn n f p'))
    (h3 : look s.H q = some (.row .u b 1 N F [])) (hq : ¬ 100000 = q) (h4 : ∀ i, i < N → F i 0 = PI (F' i)) (h5 : p' ≤ p + 40) (h6 : N ≤ 20) (h7 : m ≤ 0 → 1 ≤ N) :
    ResOk res55 [(0, RD nn n f p)] s (fun x h => ∃ y : TD, (y.1 ≤ p + 40 ∧ y.2.1 ≤ 20 ∧ (m ≤ 0 → 1 ≤ y.2.1)) ∧ x = tdR y ∧ h = tdH nn n f y) := by
  refine ResOk.mk [] [(0, 100000)] [] (tdR (p', N, F')) (tdH nn n f (p', N, F')) ?_ ⟨(p', N, F'), ⟨h5, h6, h7⟩, rfl, rfl⟩
  have e : s.lowers [] = s := rfl
  have e2 : ∀ i, s.obj i = look s.H i := fun _ => rfl
  simp [doneC, resOf, resAV, tup, pinR, hbs, e, e2, h0, h2, h3, leObs, obLe, injB, AV.leC, AV.leCs, PV.leC, PV.Le_v, look, rho, isNew, keptC, renH, Mode.ok, Mode.isZ, PV.isVal, PV.isNilSl, res55, hq]
  intro i hi
  rw [h4 i hi]; exact .refl _
theorem c_dT (nn : Bool) (n : Nat) (f : Nat → Int) (p : Nat) (m : Int) (hb : Bytes f) (hp : p ≤ 100000000) : PSome Tryd.prog G0 55 [.adr 0 0, AI m] [(0, RD nn n f p)] TD (fun y => y.1 ≤ p + 40 ∧ y.2.1 ≤ 20 ∧ (m ≤ 0 → 1 ≤ y.2.1)) (fun y => tdR y) (fun y => tdH nn n f y) := by
  refine PCall.by chk55 rfl (ev_dT nn n f p m) ?_
  simp only [VC.holds_split, VC.holds_need, VC.holds_doneP, VC.holds_done, VC.holds_either, VC.holds_call, VC.holds_callE, VC.holds_lend, VC.holds_stop, VC.holds_fail, decide_eq_true_eq, decide_eq_false_iff_not]
  have r5 := pick_rng (n := n) (p := p) (m := 5) hb (by omega) (by omega)
  have rK := lit_rng (lo := 1) (hi := 16) (l := [1, 2, 4, 8, 16]) (by decide) (i := (pickV n f p 5).toNat) (by simp only [List.length_cons, List.length_nil]; omega)
  generalize litI [1, 2, 4, 8, 16] (pickV n f p 5).toNat = K at rK ⊢
  refine ⟨c_pick _ _ _ _ _ hb (by omega), ⟨r5.1, by omega⟩, by omega, loop_by (st_dT nn n f (p + 1) m K) (fun j => (j : Int) ≤ K) (fun j => 16 - j) 0 [] [] [] (by omega) ?_ (evr_dT nn n f p (p + 1) m K) fun j hj => ?_⟩
  · simp [st_dT, hbs, St.lowers, St.lower, stLe, leEnv, leObs, obLe, injB, pinC, AV.leC, AV.leCs, PV.leC, PV.Le_v, St.get, St.obj, look, rho, isNew, keptC, renH, Mode.ok, Mode.isZ, PV.isVal, PV.isNilSl, List.all_nil, List.all_cons, List.any_nil, List.any_cons, List.map_nil, List.map_cons]
  · have r256 := pick_rng (n := n) (p := p + 1 + j) (m := 256) hb (by omega) (by omega)
    have hod := oddP_le (p + 1 + j) m
    have r3 := pick_rng (n := n) (p := oddP (p + 1 + j) m) (m := 3) hb (by omega) (by omega)
    have r2 := pick_rng (n := n) (p := oddP (p + 1 + j) m + 1) (m := 2) hb (by omega) (by omega)
    have w1 : IntKind.i64.wrap (pickV n f (p + 1 + j) 256 * 780) = tagD n f (p + 1) j := wrap_in (by omega) (by omega)
    have w2 : IntKind.i64.wrap (K - (j : Int) - 1) = K - ((j + 1 : Nat) : Int) := (wrap_in (by omega) (by omega)).trans (by omega)
    have hm : oddV n f (p + 1 + j) m = true → ¬ m ≤ 0 := by
      intro h
      simp only [oddV, Bool.and_eq_true, decide_eq_true_eq] at h
      omega
    simp only [w1, w2, VC.holds_split, VC.holds_need, VC.holds_doneP, VC.holds_done, VC.holds_either, VC.holds_call, VC.holds_callE, VC.holds_lend, VC.holds_stop, VC.holds_fail, decide_eq_true_eq, decide_eq_false_iff_not]
    refine ⟨fun h => ⟨c_pick _ _ _ _ _ hb (by omega), ⟨by omega, fun i k hi hk => ?_⟩, Again.mk (j + 1) [] [(7, 22)] [] (by omega) (by omega) ?_⟩, fun h => ⟨c_odd _ _ _ _ _ hb (by omega), fun h1 => ⟨c_pick _ _ _ _ _ hb (by omega), fun h2 => ⟨⟨by omega, fun i k hi hk => rfl⟩, ?_⟩, fun h2 => ⟨fun h3 => ⟨c_pick _ _ _ _ _ hb (by omega), ⟨by omega, by omega⟩, by omega, ⟨by omega, by omega⟩, by omega, ?_⟩, fun h3 => ?_⟩⟩, fun h1 => ?_⟩⟩
    · obtain rfl : i = 0 := by omega
      obtain rfl : k = 0 := by omega
      rfl
    · simp [st_dT, hbs, St.lowers, St.lower, stLe, leEnv, leObs, obLe, injB, pinC, AV.leC, AV.leCs, PV.leC, PV.Le_v, St.get, St.obj, look, rho, isNew, keptC, renH, Mode.ok, Mode.isZ, PV.isVal, PV.isNilSl, List.all_nil, List.all_cons, List.any_nil, List.any_cons, List.map_nil, List.map_cons]
      refine ⟨by omega, fun i hi => ?_⟩
      by_cases h4 : i < j
      · simp [h4]; exact .refl _
      · have : i = j := by omega
        subst this
        simp [setG, cellSet]; exact .refl _
    · refine tree_done (q := 33) (fun i => if i < j then tagD n f (p + 1) i else litI [5, 6, 7] (i - j)) rfl rfl rfl (by decide) (fun i hi => ?_) (by omega) (by omega) (by omega)
      by_cases h4 : i < j <;> simp [h4]
    · refine tree_done (q := 7) (fun i => if i = 0 then litI [-1, 200003] (pickV n f (oddP (p + 1 + j) m + 1) 2).toNat else tagD n f (p + 1) i) rfl rfl rfl (by decide) (fun i hi => ?_) (by omega) (by omega) (by omega)
      by_cases h4 : i = 0 <;> simp [h4, setG, cellSet]
    · exact tree_done (q := 28) (fun _ => 0) rfl rfl rfl (by decide) (fun i hi => by omega) (by omega) (by omega) (fun h => absurd h (hm h1))
    · exact tree_done (q := 7) (tagD n f (p + 1)) rfl rfl rfl (by decide) (fun i hi => rfl) (by omega) (by omega) (by omega)
def in_dRO (nn : Bool) (n : Nat) (f : Nat → Int) := (G0, res32, ([] : List (Nat × Ob)), [Item.ir ir32], start [.p false (.sl nn 1 n (PB f))] [])
theorem ev_dRO : ∀ (nn : Bool) (n : Nat) (f : Nat → Int),
  ev G0 res32 [] (3000 : Nat)
      (Or.call [] (AV.adr (0 : Nat) (0 : Nat)) [((0 : Nat), RD nn (openN n) f (0 : Nat))]
        (Or.callE [(1004 : Nat)] TD
          (fun (y : TD) =>
            y.fst ≤ (0 : Nat) + (40 : Nat) ∧ y.snd.fst ≤ (20 : Nat) ∧ ((6 : Int) ≤ (0 : Int) → (1 : Nat) ≤ y.snd.fst))
          (fun (y : TD) => tdR y) (fun (y : TD) => tdH nn (openN n) f y) fun (y : TD) => Or.nil))
      [Item.ir ir32] (start [AV.p false (PV.sl nn (1 : Nat) n (PB f))] []) =
    VC.call (41 : Nat) [AV.p false (PV.sl nn (1 : Nat) n (PB f))] [] (AV.adr (0 : Nat) (0 : Nat))
      [((0 : Nat), RD nn (openN n) f (0 : Nat))]
      (VC.callE TD (55 : Nat) [AV.adr (0 : Nat) (0 : Nat), AV.p true (PV.v (Value.int IntKind.i64 (6 : Int)))]
        [((0 : Nat),
            Ob.box
              [AV.p false (PV.sl nn (1 : Nat) (openN n) (PB f)),
                AV.p true (PV.v (Value.int IntKind.i64 (↑(0 : Nat) : Int)))])]
        (fun (y : TD) =>
          y.fst ≤ (0 : Nat) + (40 : Nat) ∧ y.snd.fst ≤ (20 : Nat) ∧ ((6 : Int) ≤ (0 : Int) → (1 : Nat) ≤ y.snd.fst))
        (fun (y : TD) => tdR y) (fun (y : TD) => tdH nn (openN n) f y) fun (y : TD) =>
        VC.done
          {
            env :=
              [((0 : Nat), AV.p false (PV.sl nn (1 : Nat) n (PB f))),
                ((2 : Nat), AV.p true (PV.sl false (1 : Nat) y.2.1 fun (i x : Nat) => PI (y.2.2 i)))],
            H := [] }) := by
  intros; kernel_rfl
abbrev TE := Nat × (Nat → Int)
abbrev teR (x : TE) : AV := .p true (.sl false 1 x.1 (fun i _ => PI (x.2 i)))
theorem c_dRO (nn : Bool) (n : Nat) (f : Nat → Int) (hb : Bytes f) : PSome Tryd.prog G0 32 [.p false (.sl nn 1 n (PB f))] [] TE (fun y => y.1 ≤ 20) (fun y => teR y) (fun _ => []) := by
  refine PCall.by chk32 rfl (ev_dRO nn n f) ?_
  simp only [VC.holds_split, VC.holds_need, VC.holds_doneP, VC.holds_done, VC.holds_either, VC.holds_call, VC.holds_callE, VC.holds_lend, VC.holds_stop, VC.holds_fail, decide_eq_true_eq, decide_eq_false_iff_not]
  refine ⟨c_open _ _ _, c_dT _ _ _ _ _ hb (by omega), ?_⟩
  rintro ⟨p', N, F⟩ hy
  simp only [] at hy ⊢
  refine ResOk.mk [] [] [] (teR (N, F)) [] ?_ ⟨(N, F), hy.2.1, rfl, rfl⟩
  simp [doneC, resOf, resAV, tup, pinR, hbs, St.lowers, St.lower, stLe, leEnv, leObs, obLe, injB, pinC, AV.leC, AV.leCs, PV.leC, PV.Le_v, St.get, St.obj, look, rho, isNew, keptC, renH, Mode.ok, Mode.isZ, PV.isVal, PV.isNilSl, List.all_nil, List.all_cons, List.any_nil, List.any_cons, List.map_nil, List.map_cons, res32]
def in_dPO (nn : Bool) (n : Nat) (f : Nat → Int) := (G0, res37, ([] : List (Nat × Ob)), [Item.ir ir37], start [.p false (.sl nn 1 n (PB f))] [])
theorem ev_dPO : ∀ (nn : Bool) (n : Nat) (f : Nat → Int),
  ev G0 res37 [] (3000 : Nat)
      (Or.call [] (AV.adr (0 : Nat) (0 : Nat)) [((0 : Nat), RD nn (openN n) f (0 : Nat))]
        (Or.callE [(1007 : Nat)] TD
          (fun (y : TD) =>
            y.fst ≤ (0 : Nat) + (40 : Nat) ∧ y.snd.fst ≤ (20 : Nat) ∧ ((9 : Int) ≤ (0 : Int) → (1 : Nat) ≤ y.snd.fst))
          (fun (y : TD) => tdR y) (fun (y : TD) => tdH nn (openN n) f y) fun (y : TD) =>
          Or.call [(1007 : Nat)]
            (AI
              (pickV (openN n) f y.1
                (if true = true then if (↑y.2.1 : Int) > (1 : Int) then (↑y.2.1 : Int) else (1 : Int)
                else if (↑y.2.1 : Int) < (1 : Int) then (↑y.2.1 : Int) else (1 : Int))))
            [((0 : Nat), RD nn (openN n) f (y.1 + (1 : Nat)))]
            (Or.call [(1007 : Nat)] (AI (pickV (openN n) f (y.1 + (1 : Nat)) (14 : Int)))
              [((0 : Nat), RD nn (openN n) f (y.1 + (1 : Nat) + (1 : Nat)))]
              (Or.call [(1007 : Nat)] (AI (pickV (openN n) f (y.1 + (1 : Nat) + (1 : Nat)) (14 : Int)))
                [((0 : Nat), RD nn (openN n) f (y.1 + (1 : Nat) + (1 : Nat) + (1 : Nat)))] Or.nil))))
      [Item.ir ir37] (start [AV.p false (PV.sl nn (1 : Nat) n (PB f))] []) =
    VC.call (41 : Nat) [AV.p false (PV.sl nn (1 : Nat) n (PB f))] [] (AV.adr (0 : Nat) (0 : Nat))
      [((0 : Nat), RD nn (openN n) f (0 : Nat))]
      (VC.callE TD (55 : Nat) [AV.adr (0 : Nat) (0 : Nat), AV.p true (PV.v (Value.int IntKind.i64 (9 : Int)))]
        [((0 : Nat),
            Ob.box
              [AV.p false (PV.sl nn (1 : Nat) (openN n) (PB f)),
                AV.p true (PV.v (Value.int IntKind.i64 (↑(0 : Nat) : Int)))])]
        (fun (y : TD) =>
          y.fst ≤ (0 : Nat) + (40 : Nat) ∧ y.snd.fst ≤ (20 : Nat) ∧ ((9 : Int) ≤ (0 : Int) → (1 : Nat) ≤ y.snd.fst))
        (fun (y : TD) => tdR y) (fun (y : TD) => tdH nn (openN n) f y) fun (y : TD) =>
        VC.call (42 : Nat)
          [AV.adr (0 : Nat) (0 : Nat),
            AV.p true
              (PV.v
                (Value.int IntKind.i64
                  (if true = true then if (↑y.2.1 : Int) > (1 : Int) then (↑y.2.1 : Int) else (1 : Int)
                  else if (↑y.2.1 : Int) < (1 : Int) then (↑y.2.1 : Int) else (1 : Int))))]
          [((0 : Nat),
              Ob.box
                [AV.p false (PV.sl nn (1 : Nat) (openN n) (PB f)),
                  AV.p true (PV.v (Value.int IntKind.i64 (↑y.1 : Int)))])]
          (AI
            (pickV (openN n) f y.1
              (if true = true then if (↑y.2.1 : Int) > (1 : Int) then (↑y.2.1 : Int) else (1 : Int)
              else if (↑y.2.1 : Int) < (1 : Int) then (↑y.2.1 : Int) else (1 : Int))))
          [((0 : Nat), RD nn (openN n) f (y.1 + (1 : Nat)))]
          (VC.call (42 : Nat) [AV.adr (0 : Nat) (0 : Nat), AV.p true (PV.v (Value.int IntKind.i64 (14 : Int)))]
            [((0 : Nat),
                Ob.box
                  [AV.p false (PV.sl nn (1 : Nat) (openN n) (PB f)),
                    AV.p true (PV.v (Value.int IntKind.i64 (↑(y.1 + (1 : Nat)) : Int)))])]
            (AI (pickV (openN n) f (y.1 + (1 : Nat)) (14 : Int)))
            [((0 : Nat), RD nn (openN n) f (y.1 + (1 : Nat) + (1 : Nat)))]
            (VC.need ((13 : Int) ≠ (0 : Int))
              (VC.call (42 : Nat) [AV.adr (0 : Nat) (0 : Nat), AV.p true (PV.v (Value.int IntKind.i64 (14 : Int)))]
                [((0 : Nat),
                    Ob.box
                      [AV.p false (PV.sl nn (1 : Nat) (openN n) (PB f)),
                        AV.p true (PV.v (Value.int IntKind.i64 (↑(y.1 + (1 : Nat) + (1 : Nat)) : Int)))])]
                (AI (pickV (openN n) f (y.1 + (1 : Nat) + (1 : Nat)) (14 : Int)))
                [((0 : Nat), RD nn (openN n) f (y.1 + (1 : Nat) + (1 : Nat) + (1 : Nat)))]
                (VC.need ((13 : Int) ≠ (0 : Int))
                  (VC.done
                    {
                      env :=
                        [((0 : Nat), AV.p false (PV.sl nn (1 : Nat) n (PB f))),
                          ((2 : Nat), AV.p true (PV.sl false (1 : Nat) y.2.1 fun (i x : Nat) => PI (y.2.2 i))),
                          ((3 : Nat),
                            AV.p true
                              (PV.v
                                (Value.int IntKind.i64
                                  (IntKind.i64.wrap
                                    (IntKind.i64.wrap
                                        (pickV (openN n) f y.1
                                            (if true = true then
                                              if (↑y.2.1 : Int) > (1 : Int) then (↑y.2.1 : Int) else (1 : Int)
                                            else if (↑y.2.1 : Int) < (1 : Int) then (↑y.2.1 : Int) else (1 : Int)) +
                                          IntKind.i64.wrap
                                            (IntKind.i64.wrap
                                                ((pickV (openN n) f (y.1 + (1 : Nat)) (14 : Int)).tdiv (13 : Int)) *
                                              (↑y.2.1 : Int))) -
                                      IntKind.i64.wrap
                                        ((pickV (openN n) f (y.1 + (1 : Nat) + (1 : Nat)) (14 : Int)).tdiv
                                          (13 : Int))))))),
                          ((4 : Nat), AV.adr (1007 : Nat) (0 : Nat)),
                          ((5 : Nat), AV.p true (PV.sl false (1 : Nat) y.2.1 fun (i x : Nat) => PI (y.2.2 i)))],
                      H :=
                        [((1007 : Nat),
                            Ob.box
                              [AV.p false (PV.sl nn (1 : Nat) (openN n) (PB f)),
                                AV.p true
                                  (PV.v
                                    (Value.int IntKind.i64
                                      (↑(y.1 + (1 : Nat) + (1 : Nat) + (1 : Nat)) : Int)))])] })))))) := by
  intros; kernel_rfl
theorem c_dPO (nn : Bool) (n : Nat) (f : Nat → Int) (hb : Bytes f) : PSome Tryd.prog G0 37 [.p false (.sl nn 1 n (PB f))] [] (TE × Int) (fun y => y.1.1 ≤ 20) (fun y => .tp [teR y.1, AI y.2]) (fun _ => []) := by
  refine PCall.by chk37 rfl (ev_dPO nn n f) ?_
  simp only [VC.holds_split, VC.holds_need, VC.holds_doneP, VC.holds_done, VC.holds_either, VC.holds_call, VC.holds_callE, VC.holds_lend, VC.holds_stop, VC.holds_fail, decide_eq_true_eq, decide_eq_false_iff_not]
  refine ⟨c_open _ _ _, c_dT _ _ _ _ _ hb (by omega), ?_⟩
  rintro ⟨p', N, F⟩ hy
  simp only [] at hy ⊢
  refine ⟨c_pick _ _ _ _ _ hb (by omega), c_pick _ _ _ _ _ hb (by omega), by decide, c_pick _ _ _ _ _ hb (by omega), by decide, ?_⟩
  refine ResOk.at [] [] [] rfl ?_ ⟨((N, F), _), hy.2.1, rfl, rfl⟩
  simp [doneC, resOf, resAV, tup, pinR, hbs, St.lowers, St.lower, stLe, leEnv, leObs, obLe, injB, pinC, AV.leC, AV.leCs, PV.leC, PV.Le_v, St.get, St.obj, look, rho, isNew, keptC, renH, Mode.ok, Mode.isZ, PV.isVal, PV.isNilSl, List.all_nil, List.all_cons, List.any_nil, List.any_cons, List.map_nil, List.map_cons, res37]
def in_dPR (nn : Bool) (n : Nat) (f : Nat → Int) := (G0, res39, ([] : List (Nat × Ob)), [Item.ir ir39], start [.p false (.sl nn 1 n (PB f))] [])
theorem ev_dPR : ∀ (nn : Bool) (n : Nat) (f : Nat → Int),
  ev G0 res39 [] (3000 : Nat)
      (Or.call [] (AV.adr (0 : Nat) (0 : Nat)) [((0 : Nat), RD nn (openN n) f (0 : Nat))]
        (Or.callE [(1014 : Nat)] TD
          (fun (y : TD) =>
            y.fst ≤ (0 : Nat) + (40 : Nat) ∧ y.snd.fst ≤ (20 : Nat) ∧ ((0 : Int) ≤ (0 : Int) → (1 : Nat) ≤ y.snd.fst))
          (fun (y : TD) => tdR y) (fun (y : TD) => tdH nn (openN n) f y) fun (y : TD) =>
          Or.call [(1014 : Nat)] (AI (pickV (openN n) f y.1 (↑y.2.1 : Int)))
            [((0 : Nat), RD nn (openN n) f (y.1 + (1 : Nat)))]
            (Or.call [] (proofR y.2.1 (fun (i : Nat) => intOf (PI (y.2.2 i))) (pickV (openN n) f y.1 (↑y.2.1 : Int)))
              (proofH y.2.1 (fun (i : Nat) => intOf (PI (y.2.2 i))) (pickV (openN n) f y.1 (↑y.2.1 : Int)))
              (Or.call [] (AI (rootOf y.2.1 fun (i : Nat) => intOf (PI (y.2.2 i)))) []
                (Or.call [(1014 : Nat)] (AB (oddV (openN n) f (y.1 + (1 : Nat)) (3 : Int)))
                  [((0 : Nat), RD nn (openN n) f (oddP (y.1 + (1 : Nat)) (3 : Int)))]
                  ((Or.call [(1014 : Nat)] (AI (pickV (openN n) f (oddP (y.1 + (1 : Nat)) (3 : Int)) (5 : Int)))
                        [((0 : Nat), RD nn (openN n) f (oddP (y.1 + (1 : Nat)) (3 : Int) + (1 : Nat)))]
                        (Or.nil.split
                          ((Or.call [(1014 : Nat)]
                                (AI (pickV (openN n) f (oddP (y.1 + (1 : Nat)) (3 : Int) + (1 : Nat)) (3 : Int)))
                                [((0 : Nat),
                                    RD nn (openN n) f (oddP (y.1 + (1 : Nat)) (3 : Int) + (1 : Nat) + (1 : Nat)))]
                                Or.nil).split
                            ((Or.call [(1014 : Nat)]
                                  (AI (pickV (openN n) f (oddP (y.1 + (1 : Nat)) (3 : Int) + (1 : Nat)) (3 : Int)))
                                  [((0 : Nat),
                                      RD nn (openN n) f (oddP (y.1 + (1 : Nat)) (3 : Int) + (1 : Nat) + (1 : Nat)))]
                                  Or.nil).split
                              (Or.nil.split
                                ((Or.call [(1014 : Nat)]
                                      (AI
                                        (pickV (openN n) f (oddP (y.1 + (1 : Nat)) (3 : Int) + (1 : Nat))
                                          (↑(proofN y.2.1 (fun (i : Nat) => intOf (PI (y.2.2 i)))
                                                (pickV (openN n) f y.1 (↑y.2.1 : Int))) :
                                            Int)))
                                      [((0 : Nat),
                                          RD nn (openN n) f (oddP (y.1 + (1 : Nat)) (3 : Int) + (1 : Nat) + (1 : Nat)))]
                                      (Or.call [(1014 : Nat)]
                                        (AI
                                          (pickV (openN n) f (oddP (y.1 + (1 : Nat)) (3 : Int) + (1 : Nat) + (1 : Nat))
                                            (3 : Int)))
                                        [((0 : Nat),
                                            RD nn (openN n) f
                                              (oddP (y.1 + (1 : Nat)) (3 : Int) + (1 : Nat) + (1 : Nat) + (1 : Nat)))]
                                        Or.nil)).split
                                  Or.nil)))))).split
                    Or.nil))))))
      [Item.ir ir39] (start [AV.p false (PV.sl nn (1 : Nat) n (PB f))] []) =
    VC.call (41 : Nat) [AV.p false (PV.sl nn (1 : Nat) n (PB f))] [] (AV.adr (0 : Nat) (0 : Nat))
      [((0 : Nat), RD nn (openN n) f (0 : Nat))]
      (VC.callE TD (55 : Nat) [AV.adr (0 : Nat) (0 : Nat), AV.p true (PV.v (Value.int IntKind.i64 (0 : Int)))]
        [((0 : Nat),
            Ob.box
              [AV.p false (PV.sl nn (1 : Nat) (openN n) (PB f)),
                AV.p true (PV.v (Value.int IntKind.i64 (↑(0 : Nat) : Int)))])]
        (fun (y : TD) =>
          y.fst ≤ (0 : Nat) + (40 : Nat) ∧ y.snd.fst ≤ (20 : Nat) ∧ ((0 : Int) ≤ (0 : Int) → (1 : Nat) ≤ y.snd.fst))
        (fun (y : TD) => tdR y) (fun (y : TD) => tdH nn (openN n) f y) fun (y : TD) =>
        VC.call (42 : Nat) [AV.adr (0 : Nat) (0 : Nat), AV.p true (PV.v (Value.int IntKind.i64 (↑y.2.1 : Int)))]
          [((0 : Nat),
              Ob.box
                [AV.p false (PV.sl nn (1 : Nat) (openN n) (PB f)),
                  AV.p true (PV.v (Value.int IntKind.i64 (↑y.1 : Int)))])]
          (AI (pickV (openN n) f y.1 (↑y.2.1 : Int))) [((0 : Nat), RD nn (openN n) f (y.1 + (1 : Nat)))]
          (VC.call (38 : Nat)
            [AV.p false (PV.sl false (1 : Nat) y.2.1 fun (i x : Nat) => PI (y.2.2 i)),
              AV.p true (PV.v (Value.int IntKind.i64 (pickV (openN n) f y.1 (↑y.2.1 : Int))))]
            [] (proofR y.2.1 (fun (i : Nat) => intOf (PI (y.2.2 i))) (pickV (openN n) f y.1 (↑y.2.1 : Int)))
            (proofH y.2.1 (fun (i : Nat) => intOf (PI (y.2.2 i))) (pickV (openN n) f y.1 (↑y.2.1 : Int)))
            (VC.call (34 : Nat) [AV.p false (PV.sl false (1 : Nat) y.2.1 fun (i x : Nat) => PI (y.2.2 i))] []
              (AI (rootOf y.2.1 fun (i : Nat) => intOf (PI (y.2.2 i)))) []
              (VC.need
                ((0 : Int) ≤ pickV (openN n) f y.1 (↑y.2.1 : Int) ∧
                  (pickV (openN n) f y.1 (↑y.2.1 : Int)).toNat < y.2.1)
                (VC.call (61 : Nat) [AV.adr (0 : Nat) (0 : Nat), AV.p true (PV.v (Value.int IntKind.i64 (3 : Int)))]
                  [((0 : Nat),
                      Ob.box
                        [AV.p false (PV.sl nn (1 : Nat) (openN n) (PB f)),
                          AV.p true (PV.v (Value.int IntKind.i64 (↑(y.1 + (1 : Nat)) : Int)))])]
                  (AB (oddV (openN n) f (y.1 + (1 : Nat)) (3 : Int)))
                  [((0 : Nat), RD nn (openN n) f (oddP (y.1 + (1 : Nat)) (3 : Int)))]
                  (VC.split (oddV (openN n) f (y.1 + (1 : Nat)) (3 : Int))
                    (VC.call (42 : Nat) [AV.adr (0 : Nat) (0 : Nat), AV.p true (PV.v (Value.int IntKind.i64 (5 : Int)))]
                      [((0 : Nat),
                          Ob.box
                            [AV.p false (PV.sl nn (1 : Nat) (openN n) (PB f)),
                              AV.p true (PV.v (Value.int IntKind.i64 (↑(oddP (y.1 + (1 : Nat)) (3 : Int)) : Int)))])]
                      (AI (pickV (openN n) f (oddP (y.1 + (1 : Nat)) (3 : Int)) (5 : Int)))
                      [((0 : Nat), RD nn (openN n) f (oddP (y.1 + (1 : Nat)) (3 : Int) + (1 : Nat)))]
                      (VC.split (pickV (openN n) f (oddP (y.1 + (1 : Nat)) (3 : Int)) (5 : Int) == (0 : Int))
                        (VC.done
                          {
                            env :=
                              [((0 : Nat), AV.p false (PV.sl nn (1 : Nat) n (PB f))),
                                ((2 : Nat),
                                  AV.p true
                                    (PV.v
                                      (Value.int IntKind.i64
                                        (IntKind.i64.wrap
                                          ((rootOf y.2.1 fun (i : Nat) => intOf (PI (y.2.2 i))) + (1 : Int)))))),
                                ((3 : Nat),
                                  AV.p true (PV.v (Value.int IntKind.i64 (pickV (openN n) f y.1 (↑y.2.1 : Int))))),
                                ((4 : Nat),
                                  AV.p true
                                    (PV.v
                                      (Value.int IntKind.i64 (y.2.2 (pickV (openN n) f y.1 (↑y.2.1 : Int)).toNat)))),
                                ((5 : Nat), AV.own (1024 : Nat)), ((6 : Nat), AV.adr (1014 : Nat) (0 : Nat)),
                                ((7 : Nat), AV.p true (PV.sl false (1 : Nat) y.2.1 fun (i x : Nat) => PI (y.2.2 i))),
                                ((8 : Nat),
                                  AV.p true (PV.v (Value.int IntKind.i64 (pickV (openN n) f y.1 (↑y.2.1 : Int))))),
                                ((9 : Nat), AV.own (1024 : Nat)),
                                ((11 : Nat),
                                  AV.p true
                                    (PV.v
                                      (Value.int IntKind.i64
                                        (IntKind.i64.wrap
                                          ((rootOf y.2.1 fun (i : Nat) => intOf (PI (y.2.2 i))) + (1 : Int)))))),
                                ((12 : Nat),
                                  AV.p true
                                    (PV.v
                                      (Value.int IntKind.i64 (y.2.2 (pickV (openN n) f y.1 (↑y.2.1 : Int)).toNat)))),
                                ((34 : Nat),
                                  AV.p true (PV.v (Value.bool (oddV (openN n) f (y.1 + (1 : Nat)) (3 : Int))))),
                                ((36 : Nat),
                                  AV.p true
                                    (PV.v
                                      (Value.int IntKind.i64
                                        (pickV (openN n) f (oddP (y.1 + (1 : Nat)) (3 : Int)) (5 : Int))))),
                                ((51 : Nat),
                                  AV.p true
                                    (PV.v
                                      (Value.bool
                                        (pickV (openN n) f (oddP (y.1 + (1 : Nat)) (3 : Int)) (5 : Int) ==
                                          (0 : Int)))))],
                            H :=
                              [((1014 : Nat),
                                  Ob.box
                                    [AV.p false (PV.sl nn (1 : Nat) (openN n) (PB f)),
                                      AV.p true
                                        (PV.v
                                          (Value.int IntKind.i64
                                            (↑(oddP (y.1 + (1 : Nat)) (3 : Int) + (1 : Nat)) : Int)))]),
                                ((1024 : Nat),
                                  Ob.row Mode.u false (1 : Nat)
                                    (proofN y.2.1 (fun (i : Nat) => intOf (PI (y.2.2 i)))
                                      (pickV (openN n) f y.1 (↑y.2.1 : Int)))
                                    (fun (i x : Nat) =>
                                      PI
                                        (proofF (fun (i_1 : Nat) => intOf (PI (y.2.2 i_1)))
                                          (pickV (openN n) f y.1 (↑y.2.1 : Int)).toNat i))
                                    [])] })
                        (VC.split (pickV (openN n) f (oddP (y.1 + (1 : Nat)) (3 : Int)) (5 : Int) == (1 : Int))
                          (VC.call (42 : Nat)
                            [AV.adr (0 : Nat) (0 : Nat), AV.p true (PV.v (Value.int IntKind.i64 (3 : Int)))]
                            [((0 : Nat),
                                Ob.box
                                  [AV.p false (PV.sl nn (1 : Nat) (openN n) (PB f)),
                                    AV.p true
                                      (PV.v
                                        (Value.int IntKind.i64
                                          (↑(oddP (y.1 + (1 : Nat)) (3 : Int) + (1 : Nat)) : Int)))])]
                            (AI (pickV (openN n) f (oddP (y.1 + (1 : Nat)) (3 : Int) + (1 : Nat)) (3 : Int)))
                            [((0 : Nat), RD nn (openN n) f (oddP (y.1 + (1 : Nat)) (3 : Int) + (1 : Nat) + (1 : Nat)))]
                            (VC.need
                              ((0 : Int) ≤ pickV (openN n) f (oddP (y.1 + (1 : Nat)) (3 : Int) + (1 : Nat)) (3 : Int) ∧
                                (pickV (openN n) f (oddP (y.1 + (1 : Nat)) (3 : Int) + (1 : Nat)) (3 : Int)).toNat <
                                  (3 : Nat))
                              (VC.need
                                ((pickV (openN n) f (oddP (y.1 + (1 : Nat)) (3 : Int) + (1 : Nat)) (3 : Int)).toNat <
                                  (3 : Nat))
                                (VC.done
                                  {
                                    env :=
                                      [((0 : Nat), AV.p false (PV.sl nn (1 : Nat) n (PB f))),
                                        ((2 : Nat),
                                          AV.p true
                                            (PV.v
                                              (Value.int IntKind.i64
                                                (rootOf y.2.1 fun (i : Nat) => intOf (PI (y.2.2 i)))))),
                                        ((3 : Nat),
                                          AV.p true
                                            (PV.v
                                              (Value.int IntKind.i64
                                                (IntKind.i64.wrap
                                                  (pickV (openN n) f y.1 (↑y.2.1 : Int) +
                                                    litI [(1 : Int), (-1 : Int), (↑y.2.1 : Int)]
                                                      (pickV (openN n) f (oddP (y.1 + (1 : Nat)) (3 : Int) + (1 : Nat))
                                                          (3 : Int)).toNat))))),
                                        ((4 : Nat),
                                          AV.p true
                                            (PV.v
                                              (Value.int IntKind.i64
                                                (y.2.2 (pickV (openN n) f y.1 (↑y.2.1 : Int)).toNat)))),
                                        ((5 : Nat), AV.own (1024 : Nat)), ((6 : Nat), AV.adr (1014 : Nat) (0 : Nat)),
                                        ((7 : Nat),
                                          AV.p true (PV.sl false (1 : Nat) y.2.1 fun (i x : Nat) => PI (y.2.2 i))),
                                        ((8 : Nat),
                                          AV.p true
                                            (PV.v
                                              (Value.int IntKind.i64
                                                (IntKind.i64.wrap
                                                  (pickV (openN n) f y.1 (↑y.2.1 : Int) +
                                                    litI [(1 : Int), (-1 : Int), (↑y.2.1 : Int)]
                                                      (pickV (openN n) f (oddP (y.1 + (1 : Nat)) (3 : Int) + (1 : Nat))
                                                          (3 : Int)).toNat))))),
                                        ((9 : Nat), AV.own (1024 : Nat)),
                                        ((11 : Nat),
                                          AV.p true
                                            (PV.v
                                              (Value.int IntKind.i64
                                                (rootOf y.2.1 fun (i : Nat) => intOf (PI (y.2.2 i)))))),
                                        ((12 : Nat),
                                          AV.p true
                                            (PV.v
                                              (Value.int IntKind.i64
                                                (y.2.2 (pickV (openN n) f y.1 (↑y.2.1 : Int)).toNat)))),
                                        ((34 : Nat),
                                          AV.p true (PV.v (Value.bool (oddV (openN n) f (y.1 + (1 : Nat)) (3 : Int))))),
                                        ((36 : Nat),
                                          AV.p true
                                            (PV.v
                                              (Value.int IntKind.i64
                                                (pickV (openN n) f (oddP (y.1 + (1 : Nat)) (3 : Int)) (5 : Int))))),
                                        ((51 : Nat),
                                          AV.p true
                                            (PV.v
                                              (Value.bool
                                                (pickV (openN n) f (oddP (y.1 + (1 : Nat)) (3 : Int)) (5 : Int) ==
                                                  (0 : Int))))),
                                        ((55 : Nat),
                                          AV.p true
                                            (PV.v
                                              (Value.bool
                                                (pickV (openN n) f (oddP (y.1 + (1 : Nat)) (3 : Int)) (5 : Int) ==
                                                  (1 : Int)))))],
                                    H :=
                                      [((1014 : Nat),
                                          Ob.box
                                            [AV.p false (PV.sl nn (1 : Nat) (openN n) (PB f)),
                                              AV.p true
                                                (PV.v
                                                  (Value.int IntKind.i64
                                                    (↑(oddP (y.1 + (1 : Nat)) (3 : Int) + (1 : Nat) + (1 : Nat)) :
                                                      Int)))]),
                                        ((1024 : Nat),
                                          Ob.row Mode.u false (1 : Nat)
                                            (proofN y.2.1 (fun (i : Nat) => intOf (PI (y.2.2 i)))
                                              (pickV (openN n) f y.1 (↑y.2.1 : Int)))
                                            (fun (i x : Nat) =>
                                              PI
                                                (proofF (fun (i_1 : Nat) => intOf (PI (y.2.2 i_1)))
                                                  (pickV (openN n) f y.1 (↑y.2.1 : Int)).toNat i))
                                            [])] }))))
                          (VC.split (pickV (openN n) f (oddP (y.1 + (1 : Nat)) (3 : Int)) (5 : Int) == (2 : Int))
                            (VC.call (42 : Nat)
                              [AV.adr (0 : Nat) (0 : Nat), AV.p true (PV.v (Value.int IntKind.i64 (3 : Int)))]
                              [((0 : Nat),
                                  Ob.box
                                    [AV.p false (PV.sl nn (1 : Nat) (openN n) (PB f)),
                                      AV.p true
                                        (PV.v
                                          (Value.int IntKind.i64
                                            (↑(oddP (y.1 + (1 : Nat)) (3 : Int) + (1 : Nat)) : Int)))])]
                              (AI (pickV (openN n) f (oddP (y.1 + (1 : Nat)) (3 : Int) + (1 : Nat)) (3 : Int)))
                              [((0 : Nat),
                                  RD nn (openN n) f (oddP (y.1 + (1 : Nat)) (3 : Int) + (1 : Nat) + (1 : Nat)))]
                              (VC.need
                                ((0 : Int) ≤
                                    pickV (openN n) f (oddP (y.1 + (1 : Nat)) (3 : Int) + (1 : Nat)) (3 : Int) ∧
                                  (pickV (openN n) f (oddP (y.1 + (1 : Nat)) (3 : Int) + (1 : Nat)) (3 : Int)).toNat <
                                    (3 : Nat))
                                (VC.need
                                  ((pickV (openN n) f (oddP (y.1 + (1 : Nat)) (3 : Int) + (1 : Nat)) (3 : Int)).toNat <
                                    (3 : Nat))
                                  (VC.done
                                    {
                                      env :=
                                        [((0 : Nat), AV.p false (PV.sl nn (1 : Nat) n (PB f))),
                                          ((2 : Nat),
                                            AV.p true
                                              (PV.v
                                                (Value.int IntKind.i64
                                                  (rootOf y.2.1 fun (i : Nat) => intOf (PI (y.2.2 i)))))),
                                          ((3 : Nat),
                                            AV.p true
                                              (PV.v (Value.int IntKind.i64 (pickV (openN n) f y.1 (↑y.2.1 : Int))))),
                                          ((4 : Nat),
                                            AV.p true
                                              (PV.v
                                                (Value.int IntKind.i64
                                                  (litI
                                                    [IntKind.i64.wrap
                                                        (y.2.2 (pickV (openN n) f y.1 (↑y.2.1 : Int)).toNat +
                                                          (1 : Int)),
                                                      (-1 : Int), (200003 : Int)]
                                                    (pickV (openN n) f (oddP (y.1 + (1 : Nat)) (3 : Int) + (1 : Nat))
                                                        (3 : Int)).toNat)))),
                                          ((5 : Nat), AV.own (1024 : Nat)), ((6 : Nat), AV.adr (1014 : Nat) (0 : Nat)),
                                          ((7 : Nat),
                                            AV.p true (PV.sl false (1 : Nat) y.2.1 fun (i x : Nat) => PI (y.2.2 i))),
                                          ((8 : Nat),
                                            AV.p true
                                              (PV.v (Value.int IntKind.i64 (pickV (openN n) f y.1 (↑y.2.1 : Int))))),
                                          ((9 : Nat), AV.own (1024 : Nat)),
                                          ((11 : Nat),
                                            AV.p true
                                              (PV.v
                                                (Value.int IntKind.i64
                                                  (rootOf y.2.1 fun (i : Nat) => intOf (PI (y.2.2 i)))))),
                                          ((12 : Nat),
                                            AV.p true
                                              (PV.v
                                                (Value.int IntKind.i64
                                                  (litI
                                                    [IntKind.i64.wrap
                                                        (y.2.2 (pickV (openN n) f y.1 (↑y.2.1 : Int)).toNat +
                                                          (1 : Int)),
                                                      (-1 : Int), (200003 : Int)]
                                                    (pickV (openN n) f (oddP (y.1 + (1 : Nat)) (3 : Int) + (1 : Nat))
                                                        (3 : Int)).toNat)))),
                                          ((34 : Nat),
                                            AV.p true
                                              (PV.v (Value.bool (oddV (openN n) f (y.1 + (1 : Nat)) (3 : Int))))),
                                          ((36 : Nat),
                                            AV.p true
                                              (PV.v
                                                (Value.int IntKind.i64
                                                  (pickV (openN n) f (oddP (y.1 + (1 : Nat)) (3 : Int)) (5 : Int))))),
                                          ((51 : Nat),
                                            AV.p true
                                              (PV.v
                                                (Value.bool
                                                  (pickV (openN n) f (oddP (y.1 + (1 : Nat)) (3 : Int)) (5 : Int) ==
                                                    (0 : Int))))),
                                          ((55 : Nat),
                                            AV.p true
                                              (PV.v
                                                (Value.bool
                                                  (pickV (openN n) f (oddP (y.1 + (1 : Nat)) (3 : Int)) (5 : Int) ==
                                                    (1 : Int))))),
                                          ((66 : Nat),
                                            AV.p true
                                              (PV.v
                                                (Value.bool
                                                  (pickV (openN n) f (oddP (y.1 + (1 : Nat)) (3 : Int)) (5 : Int) ==
                                                    (2 : Int)))))],
                                      H :=
                                        [((1014 : Nat),
                                            Ob.box
                                              [AV.p false (PV.sl nn (1 : Nat) (openN n) (PB f)),
                                                AV.p true
                                                  (PV.v
                                                    (Value.int IntKind.i64
                                                      (↑(oddP (y.1 + (1 : Nat)) (3 : Int) + (1 : Nat) + (1 : Nat)) :
                                                        Int)))]),
                                          ((1024 : Nat),
                                            Ob.row Mode.u false (1 : Nat)
                                              (proofN y.2.1 (fun (i : Nat) => intOf (PI (y.2.2 i)))
                                                (pickV (openN n) f y.1 (↑y.2.1 : Int)))
                                              (fun (i x : Nat) =>
                                                PI
                                                  (proofF (fun (i_1 : Nat) => intOf (PI (y.2.2 i_1)))
                                                    (pickV (openN n) f y.1 (↑y.2.1 : Int)).toNat i))
                                              [])] }))))
                            (VC.split (pickV (openN n) f (oddP (y.1 + (1 : Nat)) (3 : Int)) (5 : Int) == (3 : Int))
                              (VC.need
                                (((proofN y.2.1 (fun (i : Nat) => intOf (PI (y.2.2 i)))
                                            (pickV (openN n) f y.1 (↑y.2.1 : Int)) +
                                          (1 : Nat)) *
                                        (8 : Nat) ≤
                                      (140737488355328 : Nat) ∧
                                    (↑(proofN y.2.1 (fun (i : Nat) => intOf (PI (y.2.2 i)))
                                              (pickV (openN n) f y.1 (↑y.2.1 : Int)) +
                                            (1 : Nat)) :
                                        Int) ≤
                                      (9223372036854775807 : Int)) ∧
                                  allV (1 : Nat) (1 : Nat)
                                    (setG [((0 : Nat), (0 : Nat), PV.v (Value.int IntKind.i64 (5 : Int)))]
                                      fun (x j : Nat) => PV.v ([Value.int IntKind.i64 (0 : Int)].getD j undef)))
                                (VC.done
                                  {
                                    env :=
                                      [((0 : Nat), AV.p false (PV.sl nn (1 : Nat) n (PB f))),
                                        ((2 : Nat),
                                          AV.p true
                                            (PV.v
                                              (Value.int IntKind.i64
                                                (rootOf y.2.1 fun (i : Nat) => intOf (PI (y.2.2 i)))))),
                                        ((3 : Nat),
                                          AV.p true
                                            (PV.v (Value.int IntKind.i64 (pickV (openN n) f y.1 (↑y.2.1 : Int))))),
                                        ((4 : Nat),
                                          AV.p true
                                            (PV.v
                                              (Value.int IntKind.i64
                                                (y.2.2 (pickV (openN n) f y.1 (↑y.2.1 : Int)).toNat)))),
                                        ((5 : Nat), AV.own (79 : Nat)), ((6 : Nat), AV.adr (1014 : Nat) (0 : Nat)),
                                        ((7 : Nat),
                                          AV.p true (PV.sl false (1 : Nat) y.2.1 fun (i x : Nat) => PI (y.2.2 i))),
                                        ((8 : Nat),
                                          AV.p true
                                            (PV.v (Value.int IntKind.i64 (pickV (openN n) f y.1 (↑y.2.1 : Int))))),
                                        ((9 : Nat), AV.own (79 : Nat)),
                                        ((11 : Nat),
                                          AV.p true
                                            (PV.v
                                              (Value.int IntKind.i64
                                                (rootOf y.2.1 fun (i : Nat) => intOf (PI (y.2.2 i)))))),
                                        ((12 : Nat),
                                          AV.p true
                                            (PV.v
                                              (Value.int IntKind.i64
                                                (y.2.2 (pickV (openN n) f y.1 (↑y.2.1 : Int)).toNat)))),
                                        ((34 : Nat),
                                          AV.p true (PV.v (Value.bool (oddV (openN n) f (y.1 + (1 : Nat)) (3 : Int))))),
                                        ((36 : Nat),
                                          AV.p true
                                            (PV.v
                                              (Value.int IntKind.i64
                                                (pickV (openN n) f (oddP (y.1 + (1 : Nat)) (3 : Int)) (5 : Int))))),
                                        ((51 : Nat),
                                          AV.p true
                                            (PV.v
                                              (Value.bool
                                                (pickV (openN n) f (oddP (y.1 + (1 : Nat)) (3 : Int)) (5 : Int) ==
                                                  (0 : Int))))),
                                        ((55 : Nat),
                                          AV.p true
                                            (PV.v
                                              (Value.bool
                                                (pickV (openN n) f (oddP (y.1 + (1 : Nat)) (3 : Int)) (5 : Int) ==
                                                  (1 : Int))))),
                                        ((66 : Nat),
                                          AV.p true
                                            (PV.v
                                              (Value.bool
                                                (pickV (openN n) f (oddP (y.1 + (1 : Nat)) (3 : Int)) (5 : Int) ==
                                                  (2 : Int))))),
                                        ((75 : Nat),
                                          AV.p true
                                            (PV.v
                                              (Value.bool
                                                (pickV (openN n) f (oddP (y.1 + (1 : Nat)) (3 : Int)) (5 : Int) ==
                                                  (3 : Int)))))],
                                    H :=
                                      [((1014 : Nat),
                                          Ob.box
                                            [AV.p false (PV.sl nn (1 : Nat) (openN n) (PB f)),
                                              AV.p true
                                                (PV.v
                                                  (Value.int IntKind.i64
                                                    (↑(oddP (y.1 + (1 : Nat)) (3 : Int) + (1 : Nat)) : Int)))]),
                                        ((79 : Nat),
                                          Ob.row Mode.u false (1 : Nat)
                                            (proofN y.2.1 (fun (i : Nat) => intOf (PI (y.2.2 i)))
                                                (pickV (openN n) f y.1 (↑y.2.1 : Int)) +
                                              (1 : Nat))
                                            (fun (a b : Nat) =>
                                              if
                                                  a <
                                                    proofN y.2.1 (fun (i : Nat) => intOf (PI (y.2.2 i)))
                                                      (pickV (openN n) f y.1 (↑y.2.1 : Int)) then
                                                PI
                                                  (proofF (fun (i : Nat) => intOf (PI (y.2.2 i)))
                                                    (pickV (openN n) f y.1 (↑y.2.1 : Int)).toNat a)
                                              else
                                                setG [((0 : Nat), (0 : Nat), PV.v (Value.int IntKind.i64 (5 : Int)))]
                                                  (fun (x j : Nat) =>
                                                    PV.v ([Value.int IntKind.i64 (0 : Int)].getD j undef))
                                                  (a -
                                                    proofN y.2.1 (fun (i : Nat) => intOf (PI (y.2.2 i)))
                                                      (pickV (openN n) f y.1 (↑y.2.1 : Int)))
                                                  b)
                                            [])] }))
                              (VC.split
                                (decide
                                  ((0 : Int) <
                                    (↑(proofN y.2.1 (fun (i : Nat) => intOf (PI (y.2.2 i)))
                                          (pickV (openN n) f y.1 (↑y.2.1 : Int))) :
                                      Int)))
                                (VC.call (42 : Nat)
                                  [AV.adr (0 : Nat) (0 : Nat),
                                    AV.p true
                                      (PV.v
                                        (Value.int IntKind.i64
                                          (↑(proofN y.2.1 (fun (i : Nat) => intOf (PI (y.2.2 i)))
                                                (pickV (openN n) f y.1 (↑y.2.1 : Int))) :
                                            Int)))]
                                  [((0 : Nat),
                                      Ob.box
                                        [AV.p false (PV.sl nn (1 : Nat) (openN n) (PB f)),
                                          AV.p true
                                            (PV.v
                                              (Value.int IntKind.i64
                                                (↑(oddP (y.1 + (1 : Nat)) (3 : Int) + (1 : Nat)) : Int)))])]
                                  (AI
                                    (pickV (openN n) f (oddP (y.1 + (1 : Nat)) (3 : Int) + (1 : Nat))
                                      (↑(proofN y.2.1 (fun (i : Nat) => intOf (PI (y.2.2 i)))
                                            (pickV (openN n) f y.1 (↑y.2.1 : Int))) :
                                        Int)))
                                  [((0 : Nat),
                                      RD nn (openN n) f (oddP (y.1 + (1 : Nat)) (3 : Int) + (1 : Nat) + (1 : Nat)))]
                                  (VC.call (42 : Nat)
                                    [AV.adr (0 : Nat) (0 : Nat), AV.p true (PV.v (Value.int IntKind.i64 (3 : Int)))]
                                    [((0 : Nat),
                                        Ob.box
                                          [AV.p false (PV.sl nn (1 : Nat) (openN n) (PB f)),
                                            AV.p true
                                              (PV.v
                                                (Value.int IntKind.i64
                                                  (↑(oddP (y.1 + (1 : Nat)) (3 : Int) + (1 : Nat) + (1 : Nat)) :
                                                    Int)))])]
                                    (AI
                                      (pickV (openN n) f (oddP (y.1 + (1 : Nat)) (3 : Int) + (1 : Nat) + (1 : Nat))
                                        (3 : Int)))
                                    [((0 : Nat),
                                        RD nn (openN n) f
                                          (oddP (y.1 + (1 : Nat)) (3 : Int) + (1 : Nat) + (1 : Nat) + (1 : Nat)))]
                                    (VC.need
                                      ((0 : Int) ≤
                                          pickV (openN n) f (oddP (y.1 + (1 : Nat)) (3 : Int) + (1 : Nat) + (1 : Nat))
                                            (3 : Int) ∧
                                        (pickV (openN n) f (oddP (y.1 + (1 : Nat)) (3 : Int) + (1 : Nat) + (1 : Nat))
                                              (3 : Int)).toNat <
                                          (3 : Nat))
                                      (VC.need
                                        ((pickV (openN n) f (oddP (y.1 + (1 : Nat)) (3 : Int) + (1 : Nat) + (1 : Nat))
                                              (3 : Int)).toNat <
                                          (3 : Nat))
                                        (VC.need
                                          ((0 : Int) ≤
                                              pickV (openN n) f (oddP (y.1 + (1 : Nat)) (3 : Int) + (1 : Nat))
                                                (↑(proofN y.2.1 (fun (i : Nat) => intOf (PI (y.2.2 i)))
                                                      (pickV (openN n) f y.1 (↑y.2.1 : Int))) :
                                                  Int) ∧
                                            (pickV (openN n) f (oddP (y.1 + (1 : Nat)) (3 : Int) + (1 : Nat))
                                                  (↑(proofN y.2.1 (fun (i : Nat) => intOf (PI (y.2.2 i)))
                                                        (pickV (openN n) f y.1 (↑y.2.1 : Int))) :
                                                    Int)).toNat <
                                              proofN y.2.1 (fun (i : Nat) => intOf (PI (y.2.2 i)))
                                                (pickV (openN n) f y.1 (↑y.2.1 : Int)))
                                          (VC.need
                                            ((pickV (openN n) f (oddP (y.1 + (1 : Nat)) (3 : Int) + (1 : Nat))
                                                  (↑(proofN y.2.1 (fun (i : Nat) => intOf (PI (y.2.2 i)))
                                                        (pickV (openN n) f y.1 (↑y.2.1 : Int))) :
                                                    Int)).toNat <
                                              proofN y.2.1 (fun (i : Nat) => intOf (PI (y.2.2 i)))
                                                (pickV (openN n) f y.1 (↑y.2.1 : Int)))
                                            (VC.done
                                              {
                                                env :=
                                                  [((0 : Nat), AV.p false (PV.sl nn (1 : Nat) n (PB f))),
                                                    ((2 : Nat),
                                                      AV.p true
                                                        (PV.v
                                                          (Value.int IntKind.i64
                                                            (rootOf y.2.1 fun (i : Nat) => intOf (PI (y.2.2 i)))))),
                                                    ((3 : Nat),
                                                      AV.p true
                                                        (PV.v
                                                          (Value.int IntKind.i64
                                                            (pickV (openN n) f y.1 (↑y.2.1 : Int))))),
                                                    ((4 : Nat),
                                                      AV.p true
                                                        (PV.v
                                                          (Value.int IntKind.i64
                                                            (y.2.2 (pickV (openN n) f y.1 (↑y.2.1 : Int)).toNat)))),
                                                    ((5 : Nat), AV.own (1024 : Nat)),
                                                    ((6 : Nat), AV.adr (1014 : Nat) (0 : Nat)),
                                                    ((7 : Nat),
                                                      AV.p true
                                                        (PV.sl false (1 : Nat) y.2.1 fun (i x : Nat) => PI (y.2.2 i))),
                                                    ((8 : Nat),
                                                      AV.p true
                                                        (PV.v
                                                          (Value.int IntKind.i64
                                                            (pickV (openN n) f y.1 (↑y.2.1 : Int))))),
                                                    ((9 : Nat), AV.own (1024 : Nat)),
                                                    ((11 : Nat),
                                                      AV.p true
                                                        (PV.v
                                                          (Value.int IntKind.i64
                                                            (rootOf y.2.1 fun (i : Nat) => intOf (PI (y.2.2 i)))))),
                                                    ((12 : Nat),
                                                      AV.p true
                                                        (PV.v
                                                          (Value.int IntKind.i64
                                                            (y.2.2 (pickV (openN n) f y.1 (↑y.2.1 : Int)).toNat)))),
                                                    ((34 : Nat),
                                                      AV.p true
                                                        (PV.v
                                                          (Value.bool (oddV (openN n) f (y.1 + (1 : Nat)) (3 : Int))))),
                                                    ((36 : Nat),
                                                      AV.p true
                                                        (PV.v
                                                          (Value.int IntKind.i64
                                                            (pickV (openN n) f (oddP (y.1 + (1 : Nat)) (3 : Int))
                                                              (5 : Int))))),
                                                    ((51 : Nat),
                                                      AV.p true
                                                        (PV.v
                                                          (Value.bool
                                                            (pickV (openN n) f (oddP (y.1 + (1 : Nat)) (3 : Int))
                                                                (5 : Int) ==
                                                              (0 : Int))))),
                                                    ((55 : Nat),
                                                      AV.p true
                                                        (PV.v
                                                          (Value.bool
                                                            (pickV (openN n) f (oddP (y.1 + (1 : Nat)) (3 : Int))
                                                                (5 : Int) ==
                                                              (1 : Int))))),
                                                    ((66 : Nat),
                                                      AV.p true
                                                        (PV.v
                                                          (Value.bool
                                                            (pickV (openN n) f (oddP (y.1 + (1 : Nat)) (3 : Int))
                                                                (5 : Int) ==
                                                              (2 : Int))))),
                                                    ((75 : Nat),
                                                      AV.p true
                                                        (PV.v
                                                          (Value.bool
                                                            (pickV (openN n) f (oddP (y.1 + (1 : Nat)) (3 : Int))
                                                                (5 : Int) ==
                                                              (3 : Int))))),
                                                    ((39 : Nat),
                                                      AV.p true
                                                        (PV.v
                                                          (Value.bool
                                                            (decide
                                                              ((0 : Int) <
                                                                (↑(proofN y.2.1 (fun (i : Nat) => intOf (PI (y.2.2 i)))
                                                                      (pickV (openN n) f y.1 (↑y.2.1 : Int))) :
                                                                  Int))))))],
                                                H :=
                                                  [((1014 : Nat),
                                                      Ob.box
                                                        [AV.p false (PV.sl nn (1 : Nat) (openN n) (PB f)),
                                                          AV.p true
                                                            (PV.v
                                                              (Value.int IntKind.i64
                                                                (↑(oddP (y.1 + (1 : Nat)) (3 : Int) + (1 : Nat) +
                                                                        (1 : Nat) +
                                                                      (1 : Nat)) :
                                                                  Int)))]),
                                                    ((1024 : Nat),
                                                      Ob.row Mode.u false (1 : Nat)
                                                        (proofN y.2.1 (fun (i : Nat) => intOf (PI (y.2.2 i)))
                                                          (pickV (openN n) f y.1 (↑y.2.1 : Int)))
                                                        (setG
                                                          [((pickV (openN n) f
                                                                  (oddP (y.1 + (1 : Nat)) (3 : Int) + (1 : Nat))
                                                                  (↑(proofN y.2.1
                                                                        (fun (i : Nat) => intOf (PI (y.2.2 i)))
                                                                        (pickV (openN n) f y.1 (↑y.2.1 : Int))) :
                                                                    Int)).toNat,
                                                              (0 : Nat),
                                                              PV.v
                                                                (Value.int IntKind.i64
                                                                  (litI [(-1 : Int), (5 : Int), (200003 : Int)]
                                                                    (pickV (openN n) f
                                                                        (oddP (y.1 + (1 : Nat)) (3 : Int) + (1 : Nat) +
                                                                          (1 : Nat))
                                                                        (3 : Int)).toNat)))]
                                                          fun (i x : Nat) =>
                                                          PI
                                                            (proofF (fun (i_1 : Nat) => intOf (PI (y.2.2 i_1)))
                                                              (pickV (openN n) f y.1 (↑y.2.1 : Int)).toNat i))
                                                        [])] })))))))
                                (VC.done
                                  {
                                    env :=
                                      [((0 : Nat), AV.p false (PV.sl nn (1 : Nat) n (PB f))),
                                        ((2 : Nat),
                                          AV.p true
                                            (PV.v
                                              (Value.int IntKind.i64
                                                (rootOf y.2.1 fun (i : Nat) => intOf (PI (y.2.2 i)))))),
                                        ((3 : Nat),
                                          AV.p true
                                            (PV.v (Value.int IntKind.i64 (pickV (openN n) f y.1 (↑y.2.1 : Int))))),
                                        ((4 : Nat),
                                          AV.p true
                                            (PV.v
                                              (Value.int IntKind.i64
                                                (y.2.2 (pickV (openN n) f y.1 (↑y.2.1 : Int)).toNat)))),
                                        ((5 : Nat), AV.own (1024 : Nat)), ((6 : Nat), AV.adr (1014 : Nat) (0 : Nat)),
                                        ((7 : Nat),
                                          AV.p true (PV.sl false (1 : Nat) y.2.1 fun (i x : Nat) => PI (y.2.2 i))),
                                        ((8 : Nat),
                                          AV.p true
                                            (PV.v (Value.int IntKind.i64 (pickV (openN n) f y.1 (↑y.2.1 : Int))))),
                                        ((9 : Nat), AV.own (1024 : Nat)),
                                        ((11 : Nat),
                                          AV.p true
                                            (PV.v
                                              (Value.int IntKind.i64
                                                (rootOf y.2.1 fun (i : Nat) => intOf (PI (y.2.2 i)))))),
                                        ((12 : Nat),
                                          AV.p true
                                            (PV.v
                                              (Value.int IntKind.i64
                                                (y.2.2 (pickV (openN n) f y.1 (↑y.2.1 : Int)).toNat)))),
                                        ((34 : Nat),
                                          AV.p true (PV.v (Value.bool (oddV (openN n) f (y.1 + (1 : Nat)) (3 : Int))))),
                                        ((36 : Nat),
                                          AV.p true
                                            (PV.v
                                              (Value.int IntKind.i64
                                                (pickV (openN n) f (oddP (y.1 + (1 : Nat)) (3 : Int)) (5 : Int))))),
                                        ((51 : Nat),
                                          AV.p true
                                            (PV.v
                                              (Value.bool
                                                (pickV (openN n) f (oddP (y.1 + (1 : Nat)) (3 : Int)) (5 : Int) ==
                                                  (0 : Int))))),
                                        ((55 : Nat),
                                          AV.p true
                                            (PV.v
                                              (Value.bool
                                                (pickV (openN n) f (oddP (y.1 + (1 : Nat)) (3 : Int)) (5 : Int) ==
                                                  (1 : Int))))),
                                        ((66 : Nat),
                                          AV.p true
                                            (PV.v
                                              (Value.bool
                                                (pickV (openN n) f (oddP (y.1 + (1 : Nat)) (3 : Int)) (5 : Int) ==
                                                  (2 : Int))))),
                                        ((75 : Nat),
                                          AV.p true
                                            (PV.v
                                              (Value.bool
                                                (pickV (openN n) f (oddP (y.1 + (1 : Nat)) (3 : Int)) (5 : Int) ==
                                                  (3 : Int))))),
                                        ((39 : Nat),
                                          AV.p true
                                            (PV.v
                                              (Value.bool
                                                (decide
                                                  ((0 : Int) <
                                                    (↑(proofN y.2.1 (fun (i : Nat) => intOf (PI (y.2.2 i)))
                                                          (pickV (openN n) f y.1 (↑y.2.1 : Int))) :
                                                      Int))))))],
                                    H :=
                                      [((1014 : Nat),
                                          Ob.box
                                            [AV.p false (PV.sl nn (1 : Nat) (openN n) (PB f)),
                                              AV.p true
                                                (PV.v
                                                  (Value.int IntKind.i64
                                                    (↑(oddP (y.1 + (1 : Nat)) (3 : Int) + (1 : Nat)) : Int)))]),
                                        ((1024 : Nat),
                                          Ob.row Mode.u false (1 : Nat)
                                            (proofN y.2.1 (fun (i : Nat) => intOf (PI (y.2.2 i)))
                                              (pickV (openN n) f y.1 (↑y.2.1 : Int)))
                                            (fun (i x : Nat) =>
                                              PI
                                                (proofF (fun (i_1 : Nat) => intOf (PI (y.2.2 i_1)))
                                                  (pickV (openN n) f y.1 (↑y.2.1 : Int)).toNat i))
                                            [])] })))))))
                    (VC.done
                      {
                        env :=
                          [((0 : Nat), AV.p false (PV.sl nn (1 : Nat) n (PB f))),
                            ((2 : Nat),
                              AV.p true
                                (PV.v (Value.int IntKind.i64 (rootOf y.2.1 fun (i : Nat) => intOf (PI (y.2.2 i)))))),
                            ((3 : Nat),
                              AV.p true (PV.v (Value.int IntKind.i64 (pickV (openN n) f y.1 (↑y.2.1 : Int))))),
                            ((4 : Nat),
                              AV.p true
                                (PV.v (Value.int IntKind.i64 (y.2.2 (pickV (openN n) f y.1 (↑y.2.1 : Int)).toNat)))),
                            ((5 : Nat), AV.own (1024 : Nat)), ((6 : Nat), AV.adr (1014 : Nat) (0 : Nat)),
                            ((7 : Nat), AV.p true (PV.sl false (1 : Nat) y.2.1 fun (i x : Nat) => PI (y.2.2 i))),
                            ((8 : Nat),
                              AV.p true (PV.v (Value.int IntKind.i64 (pickV (openN n) f y.1 (↑y.2.1 : Int))))),
                            ((9 : Nat), AV.own (1024 : Nat)),
                            ((11 : Nat),
                              AV.p true
                                (PV.v (Value.int IntKind.i64 (rootOf y.2.1 fun (i : Nat) => intOf (PI (y.2.2 i)))))),
                            ((12 : Nat),
                              AV.p true
                                (PV.v (Value.int IntKind.i64 (y.2.2 (pickV (openN n) f y.1 (↑y.2.1 : Int)).toNat)))),
                            ((34 : Nat), AV.p true (PV.v (Value.bool (oddV (openN n) f (y.1 + (1 : Nat)) (3 : Int)))))],
                        H :=
                          [((1014 : Nat),
                              Ob.box
                                [AV.p false (PV.sl nn (1 : Nat) (openN n) (PB f)),
                                  AV.p true
                                    (PV.v (Value.int IntKind.i64 (↑(oddP (y.1 + (1 : Nat)) (3 : Int)) : Int)))]),
                            ((1024 : Nat),
                              Ob.row Mode.u false (1 : Nat)
                                (proofN y.2.1 (fun (i : Nat) => intOf (PI (y.2.2 i)))
                                  (pickV (openN n) f y.1 (↑y.2.1 : Int)))
                                (fun (i x : Nat) =>
                                  PI
                                    (proofF (fun (i_1 : Nat) => intOf (PI (y.2.2 i_1)))
                                      (pickV (openN n) f y.1 (↑y.2.1 : Int)).toNat i))
                                [])] }))))))) := by
  intros; kernel_rfl
theorem isI_ite {p : Prop} [Decidable p] {a b : PV} (ha : a = PI (intOf a)) (hb : b = PI (intOf b)) : (if p then a else b) = PI (intOf (if p then a else b)) := by
  split
  · exact ha
  · exact hb
abbrev PRD := (Int × Int × Int) × TE
abbrev prdR (x : PRD) : AV := .tp [AI x.1.1, AI x.1.2.1, AI x.1.2.2, teR x.2]
theorem dPR_done {s : St} {r a t : Int} {q N : Nat} {b : Bool} {F : Nat → Nat → PV} (h : resOf res39 s = some (.tp [AI r, AI a, AI t, .own q])) (hq : look s.H q = some (.row .u b 1 N F [])) (hF : IntCells 1 N F) (hN : N ≤ 30) :
    ResOk res39 [] s (fun x h => ∃ y : PRD, y.2.1 ≤ 30 ∧ x = prdR y ∧ h = []) := by
  refine ResOk.mk [] [] [] (prdR ((r, a, t), (N, fun i => intOf (F i 0)))) [] ?_ ⟨((r, a, t), (N, fun i => intOf (F i 0))), hN, rfl, rfl⟩
  have e : s.lowers [] = s := rfl
  have e2 : ∀ i, s.obj i = look s.H i := fun _ => rfl
  simp [doneC, pinR, hbs, e, e2, h, hq, leObs, obLe, injB, AV.leC, AV.leCs, PV.leC, PV.Le_v, look, rho, isNew, keptC, renH, Mode.ok, Mode.isZ, PV.isVal, PV.isNilSl]
  intro i hi
  rw [hF i 0 hi (by decide)]; exact .refl _
theorem c_dPR (nn : Bool) (n : Nat) (f : Nat → Int) (hb : Bytes f) : PSome Tryd.prog G0 39 [.p false (.sl nn 1 n (PB f))] [] PRD (fun y => y.2.1 ≤ 30) (fun y => prdR y) (fun _ => []) := by
  refine PCall.by chk39 rfl (ev_dPR nn n f) ?_
  simp only [VC.holds_split, VC.holds_need, VC.holds_doneP, VC.holds_done, VC.holds_either, VC.holds_call, VC.holds_callE, VC.holds_lend, VC.holds_stop, VC.holds_fail, decide_eq_true_eq, decide_eq_false_iff_not]
  refine ⟨c_open _ _ _, c_dT _ _ _ _ _ hb (by omega), ?_⟩
  rintro ⟨p', N, F⟩ ⟨hp, hN, hN1⟩
  simp only [] at hp hN hN1 ⊢
  have hN1 := hN1 (by decide)
  have ra := pick_rng (n := openN n) (p := p') (m := N) hb (by omega) (by omega)
  have hod := oddP_le (p' + 1) 3
  have r3 := pick_rng (n := openN n) (p := oddP (p' + 1) 3 + 1) (m := 3) hb (by omega) (by omega)
  have r3' := pick_rng (n := openN n) (p := oddP (p' + 1) 3 + 1 + 1) (m := 3) hb (by omega) (by omega)
  have hPN := proofN_le N (fun i => intOf (PI (F i))) (pickV (openN n) f p' N)
  have hi := int_cells F N
  have hc := int_cells (proofF (fun i => intOf (PI (F i))) (pickV (openN n) f p' N).toNat) (proofN N (fun i => intOf (PI (F i))) (pickV (openN n) f p' N))
  refine ⟨c_pick _ _ _ _ _ hb (by omega), c_spPO _ _ _ _ hi (by omega), c_spRO _ _ _ hi (by omega), ⟨ra.1, by omega⟩, c_odd _ _ _ _ _ hb (by omega), fun h1 => ⟨c_pick _ _ _ _ _ hb (by omega), fun h2 => ?_, fun h2 => ⟨fun h3 => ⟨c_pick _ _ _ _ _ hb (by omega), ⟨r3.1, by omega⟩, by omega, ?_⟩, fun h3 => ⟨fun h4 => ⟨c_pick _ _ _ _ _ hb (by omega), ⟨r3.1, by omega⟩, by omega, ?_⟩, fun h4 => ⟨fun h5 => ⟨⟨by omega, fun i j hi hj => ?_⟩, ?_⟩, fun h5 => ⟨fun h6 => ?_, fun h6 => ?_⟩⟩⟩⟩⟩, fun h1 => ?_⟩
  · exact dPR_done rfl rfl hc (by omega)
  · exact dPR_done rfl rfl hc (by omega)
  · exact dPR_done rfl rfl hc (by omega)
  · obtain rfl : i = 0 := by omega
    obtain rfl : j = 0 := by omega
    rfl
  · refine dPR_done rfl rfl (fun i j hi hj => ?_) (by omega)
    obtain rfl : j = 0 := by omega
    simp only [setG, cellSet]
    exact isI_ite rfl (isI_ite rfl rfl)
  · have rp := pick_rng (n := openN n) (p := oddP (p' + 1) 3 + 1) (m := (proofN N (fun i => intOf (PI (F i))) (pickV (openN n) f p' N) : Int)) hb (by omega) (by omega)
    refine ⟨c_pick _ _ _ _ _ hb (by omega), c_pick _ _ _ _ _ hb (by omega), ⟨r3'.1, by omega⟩, by omega, ⟨rp.1, by omega⟩, by omega, ?_⟩
    refine dPR_done rfl rfl (fun i j hi hj => ?_) (by omega)
    obtain rfl : j = 0 := by omega
    simp only [setG, cellSet]
    exact isI_ite rfl rfl
  · exact dPR_done rfl rfl hc (by omega)
  · exact dPR_done rfl rfl hc (by omega)
end Go.Gw
