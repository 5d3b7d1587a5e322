/- Ledgers drawn; with no condition. -/
import Derived.Test.YtbaafpfappfkjaaDoorDraw
import Derived.Test.YtbaafpfappfkjaaDoorSpend
import Derived.Test.YtbaafpfappfkjaaDoorSame
import Derived.KernelRfl
namespace Go.Gw
open Go Go.Proofs
set_option linter.unusedSimpArgs false
set_option linter.unusedVariables false
set_option maxRecDepth 100000
def ir46_L1 : Ir :=
  (.seq
  (.seq
  (.reg [12] [o 12 (.mov (tt 6)),
    o 13 (.bin .gtr (tt 12) (ci 0))])
  (.cond (tt 13)
   .skip
   (.exit 0)))
  (.seq
  (.block 1
   (.seq
   (.reg [16, 17, 18] [o 16 (.mov (tt 0)),
     o 17 (.call 42 [(tt 16), (ci 30)]),
     o 18 (.bin .add (ci 1) (tt 17)),
     o 7 (.mov (tt 18))])
   (.seq
   (.reg [19, 20, 21, 22, 23, 24] [o 19 (.fadr 1 (tt 5)),
     o 20 (.load false 1 (tt 19)),
     o 21 (.mov (tt 7)),
     o 22 (.mkSl 1 1 [(.int .i64 0)] [(0, (tt 21))]),
     o 23 (.app 1 8 true (tt 20) (tt 22)),
     o 24 (.fadr 1 (tt 5)),
     on (.store 1 (tt 24) (tt 23))])
   (.reg [25, 26, 27, 28, 29] [o 25 (.fadr 0 (tt 5)),
     o 26 (.load false 1 (tt 25)),
     o 27 (.mov (tt 7)),
     o 28 (.bin .add (tt 26) (tt 27)),
     o 29 (.fadr 0 (tt 5)),
     on (.store 1 (tt 29) (tt 28))]))))
  (.reg [14, 15] [o 14 (.mov (tt 6)),
    o 15 (.bin .sub (tt 14) (ci 1)),
    o 6 (.mov (tt 15))])))
def ir46_T2 : Ir :=
  (.seq
  (.dreg [30, 31, 32, 33, 34, 35] [0, 1, 0, 4, 15, 31, 63] [(1, 1031), (3, 1033), (3, 2033), (3, 3033), (3, 4033), (3, 5033), (3, 6033), (3, 7033), (3, 8033)] [o 30 (.fadr 0 (tt 5)),
    o 31 (.load false 1 (tt 30)),
    o 32 (.mov (tt 0)),
    o 33 (.call 42 [(tt 32), (ci 30)]),
    o 34 (.bin .add (tt 31) (tt 33)),
    o 35 (.fadr 0 (tt 5)),
    on (.store 1 (tt 35) (tt 34))])
  (.seq
  (.seq
  (.reg [36, 37] [o 36 (.mov (tt 0)),
    o 37 (.mov (tt 1)),
    o 38 (.call 61 [(tt 36), (tt 37)])])
  (.cond (tt 38)
   (.seq
   (.reg [39] [o 39 (.mov (tt 0)),
     o 40 (.call 42 [(tt 39), (ci 3)])])
   (.block 2
    (.seq
    (.reg [44] [o 44 (.bin .eql (tt 40) (ci 0)),
      o 43 (.mov (tt 44))])
    (.cond (tt 43)
     (.reg [45, 46, 47, 48, 49, 50] [o 45 (.mkSl 1 2 [(.int .i64 0)] [(0, (ci (-1))), (1, (ci 100001))]),
       o 46 (.mov (tt 0)),
       o 47 (.call 42 [(tt 46), (ci 2)]),
       o 48 (.idx 1 (tt 45) (tt 47)),
       o 49 (.load false 1 (tt 48)),
       o 50 (.fadr 0 (tt 5)),
       on (.store 1 (tt 50) (tt 49))])
     (.seq
     (.reg [52] [o 52 (.bin .eql (tt 40) (ci 1)),
       o 51 (.mov (tt 52))])
     (.cond (tt 51)
      (.dreg [53, 54, 55, 56, 57, 58, 59, 60, 61, 62] [0, 1, 0, 0, 8, 28, 60, 124, 255, 511, 1023] [(1, 1054), (2, 55), (4, 1057), (4, 2057), (4, 3057), (4, 4057), (4, 5057), (4, 6057), (4, 7057), (4, 8057), (6, 1059), (7, 60), (8, 61)] [o 53 (.fadr 1 (tt 5)),
        o 54 (.load false 1 (tt 53)),
        o 55 (.mkSl 1 2 [(.int .i64 0)] [(0, (ci 0)), (1, (ci 100000))]),
        o 56 (.mov (tt 0)),
        o 57 (.call 42 [(tt 56), (ci 2)]),
        o 58 (.idx 1 (tt 55) (tt 57)),
        o 59 (.load false 1 (tt 58)),
        o 60 (.mkSl 1 1 [(.int .i64 0)] [(0, (tt 59))]),
        o 61 (.app 1 8 true (tt 54) (tt 60)),
        o 62 (.fadr 1 (tt 5)),
        on (.store 1 (tt 62) (tt 61))])
      (.reg [41, 42] [o 41 (.mkSlc 1 8 [(.int .i64 0)] (ci 21) (ci 21)),
        o 42 (.fadr 1 (tt 5)),
        on (.store 1 (tt 42) (tt 41))])))))))
   .skip))
  (.seq
  (.reg [63] [o 63 (.load true 2 (tt 5)),
    on (.store 2 (tt 4) (tt 63))])
  .ret)))
def ir46 : Ir :=
  (.seq
  (.reg [] [o 4 (.alloc [(.int .i64 0), (.slice none 0 0)])])
  (.seq
  (.reg [8, 9] [o 8 (.mkSl 1 0 [(.int .i64 0)] []),
    o 9 (.build [(.int .i64 0), (.slice none 0 0)] [(1, 1, (tt 8))]),
    o 5 (.alloc [(.int .i64 0), (.slice none 0 0)]),
    on (.store 2 (tt 5) (tt 9))])
  (.seq
  (.seq
  (.reg [10, 11] [o 10 (.mov (tt 0)),
    o 11 (.call 42 [(tt 10), (ci 6)]),
    o 6 (.mov (tt 11))])
  (.block 0
   (.loop ir46_L1)))
  ir46_T2)))
def keep46 : List Nat := [0, 1, 4, 5, 6, 7, 13, 38, 40, 43, 51]
def res46 : List RI := [.cell true 2 4]
theorem chk46 : chk Tryd.prog 46 2 keep46 = some (ir46, res46) := by kernel_rfl
def ir18 : Ir :=
  (.seq
  (.reg [] [o 2 (.alloc [(.int .i64 0), (.slice none 0 0)])])
  (.seq
  (.reg [3, 4, 5] [o 3 (.mov (tt 0)),
    o 4 (.call 41 [(tt 3)]),
    o 5 (.call 46 [(tt 4), (ci 2)]),
    on (.store 2 (tt 2) (tt 5))])
  .ret))
def keep18 : List Nat := [0, 2]
def res18 : List RI := [.cell true 2 2]
theorem chk18 : chk Tryd.prog 18 1 keep18 = some (ir18, res18) := by kernel_rfl
def ir25 : Ir :=
  (.seq
  (.reg [] [o 2 (.alloc [(.int .i64 0), (.slice none 0 0)])])
  (.seq
  (.reg [3, 4, 5] [o 3 (.mov (tt 0)),
    o 4 (.call 41 [(tt 3)]),
    o 5 (.call 46 [(tt 4), (ci 4)]),
    on (.store 2 (tt 2) (tt 5))])
  .ret))
def keep25 : List Nat := [0, 2]
def res25 : List RI := [.cell true 2 2]
theorem chk25 : chk Tryd.prog 25 1 keep25 = some (ir25, res25) := by kernel_rfl
def ir29 : Ir :=
  (.seq
  (.reg [] [o 2 (.alloc [(.int .i64 0), (.slice none 0 0)]),
    o 3 (.mov (ci 0))])
  (.seq
  (.reg [6, 7] [o 6 (.mov (tt 0)),
    o 7 (.call 41 [(tt 6)]),
    o 4 (.mov (tt 7))])
  (.seq
  (.reg [8, 9] [o 8 (.mov (tt 4)),
    o 9 (.call 46 [(tt 8), (ci 9)]),
    o 5 (.alloc [(.int .i64 0), (.slice none 0 0)]),
    on (.store 2 (tt 5) (tt 9))])
  (.seq
  (.dreg [10, 11, 12, 13, 14, 15, 16, 17, 18, 19, 20, 21] [0, 0, 2, 6, 14, 0, 0, 70, 230, 486, 1022, 2046, 199, 8191] [(0, 1010), (0, 2010), (2, 1012), (2, 2012), (2, 3012), (2, 4012), (2, 5012), (2, 6012), (2, 7012), (2, 8012), (4, 14), (5, 15), (7, 1017), (7, 2017), (7, 3017), (7, 4017), (7, 5017), (7, 6017), (7, 7017), (7, 8017), (9, 1019), (11, 1021)] [o 10 (.load true 2 (tt 5)),
    o 11 (.mov (tt 4)),
    o 12 (.call 42 [(tt 11), (ci 30)]),
    o 13 (.bin .add (ci 1) (tt 12)),
    o 14 (.mkSl 1 4 [(.int .i64 0)] [(0, (tt 13)), (1, (ci 0)), (2, (ci (-1))), (3, (ci 100000))]),
    o 15 (.mkSl 1 7 [(.int .i64 0)] [(0, (ci 0)), (1, (ci 0)), (2, (ci 0)), (3, (ci 0)), (4, (ci 1)), (5, (ci 2)), (6, (ci 3))]),
    o 16 (.mov (tt 4)),
    o 17 (.call 42 [(tt 16), (ci 7)]),
    o 18 (.idx 1 (tt 15) (tt 17)),
    o 19 (.load false 1 (tt 18)),
    o 20 (.idx 1 (tt 14) (tt 19)),
    o 21 (.load false 1 (tt 20)),
    on (.store 2 (tt 2) (tt 10)),
    o 3 (.mov (tt 21))])
  .ret))))
def keep29 : List Nat := [0, 2, 3, 4, 5]
def res29 : List RI := [.cell true 2 2, .tmp 3]
theorem chk29 : chk Tryd.prog 29 1 keep29 = some (ir29, res29) := by kernel_rfl
def ir4 : Ir :=
  (.seq
  (.reg [] [o 2 (.mov (cb false))])
  (.seq
  (.seq
  (.reg [6, 7] [o 6 (.mov (tt 0)),
    o 7 (.len (tt 6)),
    o 8 (.bin .gtr (tt 7) (ci 1048576))])
  (.cond (tt 8)
   (.seq
   (.reg [] [o 2 (.mov (cb true))])
   .ret)
   .skip))
  (.seq
  (.reg [9, 10] [o 9 (.mov (tt 0)),
    o 10 (.call 18 [(tt 9)]),
    o 3 (.alloc [(.int .i64 0), (.slice none 0 0)]),
    on (.store 2 (tt 3) (tt 10))])
  (.seq
  (.reg [11, 12] [o 11 (.load true 2 (tt 3)),
    o 12 (.call 19 [(tt 11)]),
    o 4 (.mov (tt 12))])
  (.seq
  (.seq
  (.reg [13, 14, 15] [o 13 (.mov (tt 4)),
    o 14 (.load true 2 (tt 3)),
    o 15 (.call 20 [(tt 14)]),
    o 16 (.binB .neq (tt 13) (tt 15))])
  (.cond (tt 16)
   (.seq
   (.reg [] [o 2 (.mov (cb false))])
   .ret)
   .skip))
  (.seq
  (.dreg [17, 18, 19, 20, 21, 22, 23, 24, 25, 26, 27, 28, 29] [0, 1, 0, 0, 8, 28, 0, 64, 192, 448, 960, 2044, 4095, 0, 16383] [(1, 1018), (2, 19), (4, 1021), (5, 22), (7, 1024), (10, 27), (11, 28), (13, 5)] [o 17 (.fadr 0 (tt 3)),
    o 18 (.load false 1 (tt 17)),
    o 19 (.mkSl 1 0 [(.int .i64 0)] []),
    o 20 (.fadr 1 (tt 3)),
    o 21 (.load false 1 (tt 20)),
    o 22 (.app 1 8 true (tt 19) (tt 21)),
    o 23 (.fadr 0 (tt 3)),
    o 24 (.load false 1 (tt 23)),
    o 25 (.bin .add (tt 24) (ci 1)),
    o 26 (.mm true (ci 1) (tt 25)),
    o 27 (.mkSl 1 1 [(.int .i64 0)] [(0, (tt 26))]),
    o 28 (.app 1 8 true (tt 22) (tt 27)),
    o 29 (.build [(.int .i64 0), (.slice none 0 0)] [(0, 1, (tt 18)), (1, 1, (tt 28))]),
    o 5 (.alloc [(.int .i64 0), (.slice none 0 0)]),
    on (.store 2 (tt 5) (tt 29))])
  (.seq
  (.dreg [30, 31, 32, 33, 34, 35, 36, 37, 38, 39, 40, 41, 42, 43, 44, 45, 46, 47, 48, 49, 50, 51, 52] [0, 1, 3, 7, 15, 31, 63, 127, 255, 127, 639, 127, 2175, 6271, 14463, 32383, 65535, 131071, 262143, 524287, 1048575, 2097151, 4194303, 8388607] [(0, 1030), (0, 2030), (1, 1031), (1, 2031), (1, 3031), (1, 4031), (1, 5031), (1, 6031), (1, 7031), (1, 8031), (8, 1038), (10, 1040), (12, 1042), (15, 45), (17, 1047), (17, 2047), (17, 3047), (17, 4047), (17, 5047), (17, 6047), (17, 7047), (17, 8047), (21, 1051), (21, 2051), (21, 3051), (21, 4051), (21, 5051), (21, 6051), (21, 7051), (21, 8051)] [o 30 (.load true 2 (tt 5)),
    o 31 (.call 19 [(tt 30)]),
    o 32 (.un .not (tt 31)),
    o 33 (.mov (tt 32)),
    og 34 33 true (.mov (tt 4)),
    og 35 33 true (.un .not (tt 34)),
    og 36 33 true (.mov (tt 35)),
    og 37 36 false (.fadr 0 (tt 3)),
    og 38 36 false (.load false 1 (tt 37)),
    og 39 36 false (.fadr 1 (tt 3)),
    og 40 36 false (.load false 1 (tt 39)),
    og 41 36 false (.fadr 1 (tt 3)),
    og 42 36 false (.load false 1 (tt 41)),
    og 43 36 false (.len (tt 42)),
    og 44 36 false (.bin .quo (tt 43) (ci 2)),
    og 45 36 false (.slc 1 (tt 40) (some (tt 44)) none),
    og 46 36 false (.build [(.int .i64 0), (.slice none 0 0)] [(0, 1, (tt 38)), (1, 1, (tt 45))]),
    og 47 36 false (.call 19 [(tt 46)]),
    og 48 33 true (.pick (tt 36) (cb true) (tt 47)),
    o 49 (.pick (tt 33) (tt 48) (cb false)),
    o 50 (.mov (tt 49)),
    og 51 50 true (.call 17 []),
    o 52 (.pick (tt 50) (tt 51) (cb false)),
    o 2 (.mov (tt 52))])
  .ret)))))))
def keep4 : List Nat := [0, 2, 3, 4, 5, 8, 16]
def res4 : List RI := [.tmp 2]
theorem chk4 : chk Tryd.prog 4 1 keep4 = some (ir4, res4) := by kernel_rfl
def ir7_L1 : Ir :=
  (.seq
  (.seq
  (.reg [23] [o 23 (.mov (tt 6)),
    o 24 (.bin .geq (tt 23) (ci 0))])
  (.cond (tt 24)
   .skip
   (.exit 0)))
  (.seq
  (.block 1
   (.reg [27, 28, 29, 30, 31, 32, 33, 34] [o 27 (.mov (tt 5)),
     o 28 (.fadr 1 (tt 3)),
     o 29 (.load false 1 (tt 28)),
     o 30 (.mov (tt 6)),
     o 31 (.idx 1 (tt 29) (tt 30)),
     o 32 (.load false 1 (tt 31)),
     o 33 (.mkSl 1 1 [(.int .i64 0)] [(0, (tt 32))]),
     o 34 (.app 1 8 true (tt 27) (tt 33)),
     o 5 (.mov (tt 34))]))
  (.reg [25, 26] [o 25 (.mov (tt 6)),
    o 26 (.bin .sub (tt 25) (ci 1)),
    o 6 (.mov (tt 26))])))
def ir7_T2 : Ir :=
  (.seq
  (.reg [35, 36, 37, 38, 39, 40, 41, 42, 43, 44] [o 35 (.fadr 0 (tt 3)),
    o 36 (.load false 1 (tt 35)),
    o 37 (.mov (tt 5)),
    o 38 (.build [(.int .i64 0), (.slice none 0 0)] [(0, 1, (tt 36)), (1, 1, (tt 37))]),
    o 39 (.call 26 [(tt 38)]),
    o 40 (.mov (tt 4)),
    o 41 (.bin .eql (tt 39) (tt 40)),
    o 42 (.mov (tt 41)),
    og 43 42 true (.call 17 []),
    o 44 (.pick (tt 42) (tt 43) (cb false)),
    o 2 (.mov (tt 44))])
  .ret)
def ir7 : Ir :=
  (.seq
  (.reg [] [o 2 (.mov (cb false))])
  (.seq
  (.seq
  (.reg [7, 8] [o 7 (.mov (tt 0)),
    o 8 (.len (tt 7)),
    o 9 (.bin .gtr (tt 8) (ci 1048576))])
  (.cond (tt 9)
   (.seq
   (.reg [] [o 2 (.mov (cb true))])
   .ret)
   .skip))
  (.seq
  (.reg [10, 11] [o 10 (.mov (tt 0)),
    o 11 (.call 25 [(tt 10)]),
    o 3 (.alloc [(.int .i64 0), (.slice none 0 0)]),
    on (.store 2 (tt 3) (tt 11))])
  (.seq
  (.reg [12, 13] [o 12 (.load true 2 (tt 3)),
    o 13 (.call 26 [(tt 12)]),
    o 4 (.mov (tt 13))])
  (.seq
  (.seq
  (.reg [14, 15, 16] [o 14 (.mov (tt 4)),
    o 15 (.load true 2 (tt 3)),
    o 16 (.call 27 [(tt 15)]),
    o 17 (.bin .neq (tt 14) (tt 16))])
  (.cond (tt 17)
   (.seq
   (.reg [] [o 2 (.mov (cb false))])
   .ret)
   .skip))
  (.seq
  (.reg [18] [o 18 (.mkSl 1 0 [(.int .i64 0)] []),
    o 5 (.mov (tt 18))])
  (.seq
  (.seq
  (.reg [19, 20, 21, 22] [o 19 (.fadr 1 (tt 3)),
    o 20 (.load false 1 (tt 19)),
    o 21 (.len (tt 20)),
    o 22 (.bin .sub (tt 21) (ci 1)),
    o 6 (.mov (tt 22))])
  (.block 0
   (.loop ir7_L1)))
  ir7_T2)))))))
def keep7 : List Nat := [0, 2, 3, 4, 5, 6, 9, 17, 24]
def res7 : List RI := [.tmp 2]
theorem chk7 : chk Tryd.prog 7 1 keep7 = some (ir7, res7) := by kernel_rfl
def ir8 : Ir :=
  (.seq
  (.reg [] [o 2 (.mov (cb false))])
  (.seq
  (.seq
  (.reg [7, 8] [o 7 (.mov (tt 0)),
    o 8 (.len (tt 7)),
    o 9 (.bin .gtr (tt 8) (ci 1048576))])
  (.cond (tt 9)
   (.seq
   (.reg [] [o 2 (.mov (cb true))])
   .ret)
   .skip))
  (.seq
  (.reg [10, 11] [o 10 (.mov (tt 0)),
    o 11 (.call 25 [(tt 10)]),
    o 3 (.alloc [(.int .i64 0), (.slice none 0 0)]),
    on (.store 2 (tt 3) (tt 11))])
  (.seq
  (.reg [12, 13] [o 12 (.load true 2 (tt 3)),
    o 13 (.call 26 [(tt 12)]),
    o 4 (.mov (tt 13))])
  (.seq
  (.seq
  (.reg [14, 15, 16] [o 14 (.mov (tt 4)),
    o 15 (.load true 2 (tt 3)),
    o 16 (.call 27 [(tt 15)]),
    o 17 (.bin .neq (tt 14) (tt 16))])
  (.cond (tt 17)
   (.seq
   (.reg [] [o 2 (.mov (cb false))])
   .ret)
   .skip))
  (.seq
  (.seq
  (.reg [18] [o 18 (.mov (tt 4)),
    o 19 (.bin .lss (tt 18) (ci 0))])
  (.cond (tt 19)
   (.seq
   (.reg [20, 21, 22, 23, 24, 25, 26, 27, 28, 29] [o 20 (.mov (tt 4)),
     o 21 (.bin .eql (tt 20) (ci (-1))),
     o 22 (.mov (tt 21)),
     og 23 22 true (.load true 2 (tt 3)),
     og 24 22 true (.call 19 [(tt 23)]),
     og 25 22 true (.un .not (tt 24)),
     o 26 (.pick (tt 22) (tt 25) (cb false)),
     o 27 (.mov (tt 26)),
     og 28 27 true (.call 17 []),
     o 29 (.pick (tt 27) (tt 28) (cb false)),
     o 2 (.mov (tt 29))])
   .ret)
   .skip))
  (.seq
  (.reg [31, 32, 33, 30, 34, 35] [o 31 (.load true 2 (tt 3)),
    o 32 (.mov (tt 4)),
    o 33 (.call 28 [(tt 31), (tt 32)]),
    o 30 (.mov (tt 33)),
    o 34 (.ext (tt 30) 0),
    o 35 (.ext (tt 30) 1),
    o 5 (.alloc [(.int .i64 0), (.slice none 0 0)]),
    on (.store 2 (tt 5) (tt 34)),
    o 6 (.mov (tt 35))])
  (.seq
  (.reg [36, 37, 38, 39, 40, 41, 42, 43, 44, 45, 46, 47, 48] [o 36 (.mov (tt 4)),
    o 37 (.fadr 0 (tt 3)),
    o 38 (.load false 1 (tt 37)),
    o 39 (.bin .leq (tt 36) (tt 38)),
    o 40 (.mov (tt 39)),
    og 41 40 true (.mov (tt 6)),
    og 42 40 true (.un .not (tt 41)),
    og 43 40 true (.mov (tt 42)),
    og 44 43 false (.load true 2 (tt 5)),
    og 45 43 false (.call 26 [(tt 44)]),
    og 46 43 false (.bin .eql (tt 45) (ci 0)),
    og 47 40 true (.pick (tt 43) (cb true) (tt 46)),
    o 48 (.pick (tt 40) (tt 47) (cb false)),
    o 2 (.mov (tt 48))])
  .ret))))))))
def keep8 : List Nat := [0, 2, 3, 4, 5, 6, 9, 17, 19]
def res8 : List RI := [.tmp 2]
theorem chk8 : chk Tryd.prog 8 1 keep8 = some (ir8, res8) := by kernel_rfl
def ir9 : Ir :=
  (.seq
  (.reg [] [o 2 (.mov (cb false))])
  (.seq
  (.seq
  (.reg [11, 12] [o 11 (.mov (tt 0)),
    o 12 (.len (tt 11)),
    o 13 (.bin .gtr (tt 12) (ci 1048576))])
  (.cond (tt 13)
   (.seq
   (.reg [] [o 2 (.mov (cb true))])
   .ret)
   .skip))
  (.seq
  (.reg [15, 16, 14, 17, 18] [o 15 (.mov (tt 0)),
    o 16 (.call 29 [(tt 15)]),
    o 14 (.mov (tt 16)),
    o 17 (.ext (tt 14) 0),
    o 18 (.ext (tt 14) 1),
    o 3 (.alloc [(.int .i64 0), (.slice none 0 0)]),
    on (.store 2 (tt 3) (tt 17)),
    o 4 (.mov (tt 18))])
  (.seq
  (.reg [20, 21, 22, 19, 23, 24] [o 20 (.load true 2 (tt 3)),
    o 21 (.mov (tt 4)),
    o 22 (.call 28 [(tt 20), (tt 21)]),
    o 19 (.mov (tt 22)),
    o 23 (.ext (tt 19) 0),
    o 24 (.ext (tt 19) 1),
    o 5 (.alloc [(.int .i64 0), (.slice none 0 0)]),
    on (.store 2 (tt 5) (tt 23)),
    o 6 (.mov (tt 24))])
  (.seq
  (.reg [26, 27, 28, 25, 29, 30] [o 26 (.load true 2 (tt 3)),
    o 27 (.mov (tt 4)),
    o 28 (.call 30 [(tt 26), (tt 27)]),
    o 25 (.mov (tt 28)),
    o 29 (.ext (tt 25) 0),
    o 30 (.ext (tt 25) 1),
    o 7 (.alloc [(.int .i64 0), (.slice none 0 0)]),
    on (.store 2 (tt 7) (tt 29)),
    o 8 (.mov (tt 30))])
  (.seq
  (.seq
  (.reg [31, 32, 33, 34, 35, 36, 37, 38, 39, 40, 41, 42, 43, 44, 45, 46, 47] [o 31 (.fadr 0 (tt 5)),
    o 32 (.load false 1 (tt 31)),
    o 33 (.fadr 0 (tt 7)),
    o 34 (.load false 1 (tt 33)),
    o 35 (.bin .neq (tt 32) (tt 34)),
    o 36 (.mov (tt 35)),
    og 37 36 false (.fadr 1 (tt 5)),
    og 38 36 false (.load false 1 (tt 37)),
    og 39 36 false (.fadr 1 (tt 7)),
    og 40 36 false (.load false 1 (tt 39)),
    og 41 36 false (.call 31 [(tt 38), (tt 40)]),
    og 42 36 false (.un .not (tt 41)),
    o 43 (.pick (tt 36) (cb true) (tt 42)),
    o 44 (.mov (tt 43)),
    og 45 44 false (.mov (tt 6)),
    og 46 44 false (.mov (tt 8)),
    og 47 44 false (.binB .neq (tt 45) (tt 46)),
    o 48 (.pick (tt 44) (cb true) (tt 47))])
  (.cond (tt 48)
   (.seq
   (.reg [] [o 2 (.mov (cb false))])
   .ret)
   .skip))
  (.seq
  (.seq
  (.reg [49] [o 49 (.mov (tt 6)),
    o 50 (.un .not (tt 49))])
  (.cond (tt 50)
   (.seq
   (.reg [51, 52, 53, 54, 55, 56, 57, 58, 59, 60, 61, 62, 63, 64] [o 51 (.fadr 1 (tt 5)),
     o 52 (.load false 1 (tt 51)),
     o 53 (.fadr 1 (tt 3)),
     o 54 (.load false 1 (tt 53)),
     o 55 (.call 31 [(tt 52), (tt 54)]),
     o 56 (.mov (tt 55)),
     og 57 56 false (.fadr 1 (tt 5)),
     og 58 56 false (.load false 1 (tt 57)),
     og 59 56 false (.len (tt 58)),
     og 60 56 false (.bin .eql (tt 59) (ci 0)),
     o 61 (.pick (tt 56) (cb true) (tt 60)),
     o 62 (.mov (tt 61)),
     og 63 62 true (.call 17 []),
     o 64 (.pick (tt 62) (tt 63) (cb false)),
     o 2 (.mov (tt 64))])
   .ret)
   .skip))
  (.seq
  (.dreg [66, 67, 68, 69, 70, 65, 71, 72, 9] [0, 0, 2, 6, 15, 31, 63, 63, 0, 383, 1023] [(0, 1066), (0, 2066), (1, 1067), (1, 2067), (2, 1068), (2, 2068), (2, 3068), (2, 4068), (2, 5068), (2, 6068), (2, 7068), (2, 8068), (4, 1070), (4, 2070), (4, 3070), (4, 4070), (4, 5070), (4, 6070), (4, 7070), (4, 8070), (8, 9)] [o 66 (.load true 2 (tt 5)),
    o 67 (.load true 2 (tt 5)),
    o 68 (.call 26 [(tt 67)]),
    o 69 (.bin .add (tt 68) (ci 1)),
    o 70 (.call 28 [(tt 66), (tt 69)]),
    o 65 (.mov (tt 70)),
    o 71 (.ext (tt 65) 0),
    o 72 (.ext (tt 65) 1),
    o 9 (.alloc [(.int .i64 0), (.slice none 0 0)]),
    on (.store 2 (tt 9) (tt 71)),
    o 10 (.mov (tt 72))])
  (.seq
  (.dreg [73, 74, 75, 76, 77, 78, 79, 80, 81, 82, 83, 84, 85, 86, 87] [0, 1, 3, 7, 15, 7, 63, 7, 255, 511, 1023, 2047, 4095, 8191, 16383, 32767] [(0, 1073), (0, 2073), (1, 1074), (1, 2074), (1, 3074), (1, 4074), (1, 5074), (1, 6074), (1, 7074), (1, 8074), (3, 1076), (3, 2076), (4, 1077), (4, 2077), (4, 3077), (4, 4077), (4, 5077), (4, 6077), (4, 7077), (4, 8077), (5, 1078), (5, 2078), (6, 1079), (6, 2079), (6, 3079), (6, 4079), (6, 5079), (6, 6079), (6, 7079), (6, 8079)] [o 73 (.load true 2 (tt 5)),
    o 74 (.call 19 [(tt 73)]),
    o 75 (.mov (tt 74)),
    og 76 75 true (.load true 2 (tt 5)),
    og 77 75 true (.call 26 [(tt 76)]),
    og 78 75 true (.load true 2 (tt 3)),
    og 79 75 true (.call 26 [(tt 78)]),
    og 80 75 true (.mov (tt 4)),
    og 81 75 true (.bin .sub (tt 79) (tt 80)),
    og 82 75 true (.bin .eql (tt 77) (tt 81)),
    o 83 (.pick (tt 75) (tt 82) (cb false)),
    o 84 (.mov (tt 83)),
    og 85 84 true (.mov (tt 10)),
    og 86 84 true (.un .not (tt 85)),
    o 87 (.pick (tt 84) (tt 86) (cb false)),
    o 2 (.mov (tt 87))])
  .ret)))))))))
def keep9 : List Nat := [0, 2, 3, 4, 5, 6, 7, 8, 10, 13, 48, 50]
def res9 : List RI := [.tmp 2]
theorem chk9 : chk Tryd.prog 9 1 keep9 = some (ir9, res9) := by kernel_rfl

def in_dL (nn : Bool) (n : Nat) (f : Nat → Int) (p : Nat) (m : Int) := (G0, res46, [(0, RD nn n f p)], [Item.ir ir46], start [.adr 0 0, AI m] [(0, RD nn n f p)])
theorem ev_dL : ∀ (nn : Bool) (n : Nat) (f : Nat → Int) (p : Nat) (m : Int),
  ev G0 res46 [((0 : Nat), RD nn n f p)] (3000 : Nat)
      (Or.call [(100000 : Nat)] (AI (pickV n f p (6 : Int))) [((0 : Nat), RD nn n f (p + (1 : Nat)))] Or.nil)
      [Item.ir ir46] (start [AV.adr (0 : Nat) (0 : Nat), AI m] [((0 : Nat), RD nn n f p)]) =
    VC.call (42 : Nat) [AV.adr (0 : Nat) (0 : Nat), AV.p true (PV.v (Value.int IntKind.i64 (6 : Int)))]
      [((0 : Nat),
          Ob.box [AV.p false (PV.sl nn (1 : Nat) n (PB f)), AV.p true (PV.v (Value.int IntKind.i64 (↑p : Int)))])]
      (AI (pickV n f p (6 : Int))) [((0 : Nat), RD nn n f (p + (1 : Nat)))]
      (VC.loop ir46_L1 [Item.bend (0 : Nat), Item.ir ir46_T2]
        {
          env :=
            [((0 : Nat), AV.adr (100000 : Nat) (0 : Nat)), ((1 : Nat), AV.p true (PV.v (Value.int IntKind.i64 m))),
              ((4 : Nat), AV.adr (4 : Nat) (0 : Nat)), ((5 : Nat), AV.adr (5 : Nat) (0 : Nat)),
              ((6 : Nat), AV.p true (PV.v (Value.int IntKind.i64 (pickV n f p (6 : Int)))))],
          H :=
            [((100000 : Nat),
                Ob.box
                  [AV.p false (PV.sl nn (1 : Nat) n (PB f)),
                    AV.p true (PV.v (Value.int IntKind.i64 (↑(p + (1 : Nat)) : Int)))]),
              ((4 : Nat),
                Ob.box
                  [AV.p true (PV.v (Value.int IntKind.i64 (0 : Int))),
                    AV.p true (PV.v (Value.slice none (0 : Nat) (0 : Nat)))]),
              ((8 : Nat),
                Ob.row Mode.u true (1 : Nat) (0 : Nat)
                  (setG [] fun (x j : Nat) => PV.v ([Value.int IntKind.i64 (0 : Int)].getD j undef)) []),
              ((5 : Nat), Ob.box [AV.p true (PV.v (Value.int IntKind.i64 (0 : Int))), AV.own (8 : Nat)])] }) := by
  intros; kernel_rfl
def costF (n : Nat) (f : Nat → Int) (p : Nat) (j : Nat) : Int := 1 + pickV n f (p + j) 30
def st_dL (nn : Bool) (n : Nat) (f : Nat → Int) (p : Nat) (m K : Int) (j : Nat) : St := ⟨[(0, .adr 100000 0), (1, AI m), (4, .adr 4 0), (5, .adr 5 0), (6, AI (K - j))],
  [(100000, RD nn n f (p + j)), (4, .box [AI 0, .p true (.v (.slice none 0 0))]), (8, .row .u true 1 j (fun i _ => PI (costF n f p i)) []), (5, .box [AI (sumF (costF n f p) j), .own 8])]⟩
def r_dL (nn : Bool) (n : Nat) (f : Nat → Int) (p0 p : Nat) (m K : Int) (I : Nat → St → Prop) (j : Nat) := (G0, res46, [(0, RD nn n f p0)], [Item.ir ir46_L1, .lend (I j), Item.bend 0, Item.ir ir46_T2], st_dL nn n f p m K j)
theorem evr_dL : ∀ (nn : Bool) (n : Nat) (f : Nat → Int) (p0 p : Nat) (m K : Int) (I : Nat → St → Prop) (j : Nat),
  ev G0 res46 [((0 : Nat), RD nn n f p0)] (3000 : Nat)
      ((Or.call [(100000 : Nat)] (AI (pickV n f (p + j) (30 : Int))) [((0 : Nat), RD nn n f (p + j + (1 : Nat)))]
            Or.nil).split
        (Or.call [(100000 : Nat)] (AI (pickV n f (p + j) (30 : Int))) [((0 : Nat), RD nn n f (p + j + (1 : Nat)))]
          (Or.call [(100000 : Nat)] (AB (oddV n f (p + j + (1 : Nat)) m))
            [((0 : Nat), RD nn n f (oddP (p + j + (1 : Nat)) m))]
            ((Or.call [(100000 : Nat)] (AI (pickV n f (oddP (p + j + (1 : Nat)) m) (3 : Int)))
                  [((0 : Nat), RD nn n f (oddP (p + j + (1 : Nat)) m + (1 : Nat)))]
                  ((Or.call [(100000 : Nat)] (AI (pickV n f (oddP (p + j + (1 : Nat)) m + (1 : Nat)) (2 : Int)))
                        [((0 : Nat), RD nn n f (oddP (p + j + (1 : Nat)) m + (1 : Nat) + (1 : Nat)))] Or.nil).split
                    ((Or.call [(100000 : Nat)] (AI (pickV n f (oddP (p + j + (1 : Nat)) m + (1 : Nat)) (2 : Int)))
                          [((0 : Nat), RD nn n f (oddP (p + j + (1 : Nat)) m + (1 : Nat) + (1 : Nat)))] Or.nil).split
                      Or.nil))).split
              Or.nil))))
      [Item.ir ir46_L1, Item.lend (I j), Item.bend (0 : Nat), Item.ir ir46_T2] (st_dL nn n f p m K j) =
    VC.split (decide ((0 : Int) < K - (↑j : Int)))
      (VC.call (42 : Nat) [AV.adr (0 : Nat) (0 : Nat), AV.p true (PV.v (Value.int IntKind.i64 (30 : Int)))]
        [((0 : Nat),
            Ob.box
              [AV.p false (PV.sl nn (1 : Nat) n (PB f)), AV.p true (PV.v (Value.int IntKind.i64 (↑(p + j) : Int)))])]
        (AI (pickV n f (p + j) (30 : Int))) [((0 : Nat), RD nn n f (p + j + (1 : Nat)))]
        (VC.need
          (((j + (1 : Nat)) * (8 : Nat) ≤ (140737488355328 : Nat) ∧
              (↑(j + (1 : Nat)) : Int) ≤ (9223372036854775807 : Int)) ∧
            allV (1 : Nat) (1 : Nat)
              (setG
                [((0 : Nat), (0 : Nat),
                    PV.v (Value.int IntKind.i64 (IntKind.i64.wrap ((1 : Int) + pickV n f (p + j) (30 : Int)))))]
                fun (x j_1 : Nat) => PV.v ([Value.int IntKind.i64 (0 : Int)].getD j_1 undef)))
          (VC.lend (I j)
            {
              env :=
                [((0 : Nat), AV.adr (100000 : Nat) (0 : Nat)), ((1 : Nat), AV.p true (PV.v (Value.int IntKind.i64 m))),
                  ((4 : Nat), AV.adr (4 : Nat) (0 : Nat)), ((5 : Nat), AV.adr (5 : Nat) (0 : Nat)),
                  ((6 : Nat), AV.p true (PV.v (Value.int IntKind.i64 (IntKind.i64.wrap (K - (↑j : Int) - (1 : Int)))))),
                  ((13 : Nat), AV.p true (PV.v (Value.bool (decide ((0 : Int) < K - (↑j : Int)))))),
                  ((7 : Nat),
                    AV.p true
                      (PV.v (Value.int IntKind.i64 (IntKind.i64.wrap ((1 : Int) + pickV n f (p + j) (30 : Int))))))],
              H :=
                [((100000 : Nat),
                    Ob.box
                      [AV.p false (PV.sl nn (1 : Nat) n (PB f)),
                        AV.p true (PV.v (Value.int IntKind.i64 (↑(p + j + (1 : Nat)) : Int)))]),
                  ((4 : Nat),
                    Ob.box
                      [AV.p true (PV.v (Value.int IntKind.i64 (0 : Int))),
                        AV.p true (PV.v (Value.slice none (0 : Nat) (0 : Nat)))]),
                  ((5 : Nat),
                    Ob.box
                      [AV.p true
                          (PV.v
                            (Value.int IntKind.i64
                              (IntKind.i64.wrap
                                (sumF (costF n f p) j + IntKind.i64.wrap ((1 : Int) + pickV n f (p + j) (30 : Int)))))),
                        AV.own (23 : Nat)]),
                  ((23 : Nat),
                    Ob.row Mode.u true (1 : Nat) (j + (1 : Nat))
                      (fun (a b : Nat) =>
                        if a < j then PI (costF n f p a)
                        else
                          setG
                            [((0 : Nat), (0 : Nat),
                                PV.v
                                  (Value.int IntKind.i64
                                    (IntKind.i64.wrap ((1 : Int) + pickV n f (p + j) (30 : Int)))))]
                            (fun (x j_1 : Nat) => PV.v ([Value.int IntKind.i64 (0 : Int)].getD j_1 undef)) (a - j) b)
                      [])] })))
      (VC.call (42 : Nat) [AV.adr (0 : Nat) (0 : Nat), AV.p true (PV.v (Value.int IntKind.i64 (30 : Int)))]
        [((0 : Nat),
            Ob.box
              [AV.p false (PV.sl nn (1 : Nat) n (PB f)), AV.p true (PV.v (Value.int IntKind.i64 (↑(p + j) : Int)))])]
        (AI (pickV n f (p + j) (30 : Int))) [((0 : Nat), RD nn n f (p + j + (1 : Nat)))]
        (VC.call (61 : Nat) [AV.adr (0 : Nat) (0 : Nat), AV.p true (PV.v (Value.int IntKind.i64 m))]
          [((0 : Nat),
              Ob.box
                [AV.p false (PV.sl nn (1 : Nat) n (PB f)),
                  AV.p true (PV.v (Value.int IntKind.i64 (↑(p + j + (1 : Nat)) : Int)))])]
          (AB (oddV n f (p + j + (1 : Nat)) m)) [((0 : Nat), RD nn n f (oddP (p + j + (1 : Nat)) m))]
          (VC.split (oddV n f (p + j + (1 : Nat)) m)
            (VC.call (42 : Nat) [AV.adr (0 : Nat) (0 : Nat), AV.p true (PV.v (Value.int IntKind.i64 (3 : Int)))]
              [((0 : Nat),
                  Ob.box
                    [AV.p false (PV.sl nn (1 : Nat) n (PB f)),
                      AV.p true (PV.v (Value.int IntKind.i64 (↑(oddP (p + j + (1 : Nat)) m) : Int)))])]
              (AI (pickV n f (oddP (p + j + (1 : Nat)) m) (3 : Int)))
              [((0 : Nat), RD nn n f (oddP (p + j + (1 : Nat)) m + (1 : Nat)))]
              (VC.split (pickV n f (oddP (p + j + (1 : Nat)) m) (3 : Int) == (0 : Int))
                (VC.call (42 : Nat) [AV.adr (0 : Nat) (0 : Nat), AV.p true (PV.v (Value.int IntKind.i64 (2 : Int)))]
                  [((0 : Nat),
                      Ob.box
                        [AV.p false (PV.sl nn (1 : Nat) n (PB f)),
                          AV.p true (PV.v (Value.int IntKind.i64 (↑(oddP (p + j + (1 : Nat)) m + (1 : Nat)) : Int)))])]
                  (AI (pickV n f (oddP (p + j + (1 : Nat)) m + (1 : Nat)) (2 : Int)))
                  [((0 : Nat), RD nn n f (oddP (p + j + (1 : Nat)) m + (1 : Nat) + (1 : Nat)))]
                  (VC.need
                    ((0 : Int) ≤ pickV n f (oddP (p + j + (1 : Nat)) m + (1 : Nat)) (2 : Int) ∧
                      (pickV n f (oddP (p + j + (1 : Nat)) m + (1 : Nat)) (2 : Int)).toNat < (2 : Nat))
                    (VC.need ((pickV n f (oddP (p + j + (1 : Nat)) m + (1 : Nat)) (2 : Int)).toNat < (2 : Nat))
                      (VC.done
                        {
                          env :=
                            [((0 : Nat), AV.adr (100000 : Nat) (0 : Nat)),
                              ((1 : Nat), AV.p true (PV.v (Value.int IntKind.i64 m))),
                              ((4 : Nat), AV.adr (4 : Nat) (0 : Nat)), ((5 : Nat), AV.adr (5 : Nat) (0 : Nat)),
                              ((6 : Nat), AV.p true (PV.v (Value.int IntKind.i64 (K - (↑j : Int))))),
                              ((13 : Nat), AV.p true (PV.v (Value.bool (decide ((0 : Int) < K - (↑j : Int)))))),
                              ((38 : Nat), AV.p true (PV.v (Value.bool (oddV n f (p + j + (1 : Nat)) m)))),
                              ((40 : Nat),
                                AV.p true
                                  (PV.v (Value.int IntKind.i64 (pickV n f (oddP (p + j + (1 : Nat)) m) (3 : Int))))),
                              ((43 : Nat),
                                AV.p true
                                  (PV.v (Value.bool (pickV n f (oddP (p + j + (1 : Nat)) m) (3 : Int) == (0 : Int)))))],
                          H :=
                            [((100000 : Nat),
                                Ob.box
                                  [AV.p false (PV.sl nn (1 : Nat) n (PB f)),
                                    AV.p true
                                      (PV.v
                                        (Value.int IntKind.i64
                                          (↑(oddP (p + j + (1 : Nat)) m + (1 : Nat) + (1 : Nat)) : Int)))]),
                              ((4 : Nat),
                                Ob.box
                                  [AV.p true
                                      (PV.v
                                        (Value.int IntKind.i64
                                          (litI [(-1 : Int), (100001 : Int)]
                                            (pickV n f (oddP (p + j + (1 : Nat)) m + (1 : Nat)) (2 : Int)).toNat))),
                                    AV.own (8 : Nat)]),
                              ((8 : Nat), Ob.row Mode.u true (1 : Nat) j (fun (i x : Nat) => PI (costF n f p i)) []),
                              ((5 : Nat),
                                Ob.box
                                  [AV.p true
                                      (PV.v
                                        (Value.int IntKind.i64
                                          (litI [(-1 : Int), (100001 : Int)]
                                            (pickV n f (oddP (p + j + (1 : Nat)) m + (1 : Nat)) (2 : Int)).toNat))),
                                    AV.own (8 : Nat)])] }))))
                (VC.split (pickV n f (oddP (p + j + (1 : Nat)) m) (3 : Int) == (1 : Int))
                  (VC.call (42 : Nat) [AV.adr (0 : Nat) (0 : Nat), AV.p true (PV.v (Value.int IntKind.i64 (2 : Int)))]
                    [((0 : Nat),
                        Ob.box
                          [AV.p false (PV.sl nn (1 : Nat) n (PB f)),
                            AV.p true
                              (PV.v (Value.int IntKind.i64 (↑(oddP (p + j + (1 : Nat)) m + (1 : Nat)) : Int)))])]
                    (AI (pickV n f (oddP (p + j + (1 : Nat)) m + (1 : Nat)) (2 : Int)))
                    [((0 : Nat), RD nn n f (oddP (p + j + (1 : Nat)) m + (1 : Nat) + (1 : Nat)))]
                    (VC.need
                      ((0 : Int) ≤ pickV n f (oddP (p + j + (1 : Nat)) m + (1 : Nat)) (2 : Int) ∧
                        (pickV n f (oddP (p + j + (1 : Nat)) m + (1 : Nat)) (2 : Int)).toNat < (2 : Nat))
                      (VC.need ((pickV n f (oddP (p + j + (1 : Nat)) m + (1 : Nat)) (2 : Int)).toNat < (2 : Nat))
                        (VC.need
                          (((j + (1 : Nat)) * (8 : Nat) ≤ (140737488355328 : Nat) ∧
                              (↑(j + (1 : Nat)) : Int) ≤ (9223372036854775807 : Int)) ∧
                            allV (1 : Nat) (1 : Nat)
                              (setG
                                [((0 : Nat), (0 : Nat),
                                    PV.v
                                      (Value.int IntKind.i64
                                        (litI [(0 : Int), (100000 : Int)]
                                          (pickV n f (oddP (p + j + (1 : Nat)) m + (1 : Nat)) (2 : Int)).toNat)))]
                                fun (x j_1 : Nat) => PV.v ([Value.int IntKind.i64 (0 : Int)].getD j_1 undef)))
                          (VC.done
                            {
                              env :=
                                [((0 : Nat), AV.adr (100000 : Nat) (0 : Nat)),
                                  ((1 : Nat), AV.p true (PV.v (Value.int IntKind.i64 m))),
                                  ((4 : Nat), AV.adr (4 : Nat) (0 : Nat)), ((5 : Nat), AV.adr (5 : Nat) (0 : Nat)),
                                  ((6 : Nat), AV.p true (PV.v (Value.int IntKind.i64 (K - (↑j : Int))))),
                                  ((13 : Nat), AV.p true (PV.v (Value.bool (decide ((0 : Int) < K - (↑j : Int)))))),
                                  ((38 : Nat), AV.p true (PV.v (Value.bool (oddV n f (p + j + (1 : Nat)) m)))),
                                  ((40 : Nat),
                                    AV.p true
                                      (PV.v
                                        (Value.int IntKind.i64 (pickV n f (oddP (p + j + (1 : Nat)) m) (3 : Int))))),
                                  ((43 : Nat),
                                    AV.p true
                                      (PV.v
                                        (Value.bool (pickV n f (oddP (p + j + (1 : Nat)) m) (3 : Int) == (0 : Int))))),
                                  ((51 : Nat),
                                    AV.p true
                                      (PV.v
                                        (Value.bool (pickV n f (oddP (p + j + (1 : Nat)) m) (3 : Int) == (1 : Int)))))],
                              H :=
                                [((100000 : Nat),
                                    Ob.box
                                      [AV.p false (PV.sl nn (1 : Nat) n (PB f)),
                                        AV.p true
                                          (PV.v
                                            (Value.int IntKind.i64
                                              (↑(oddP (p + j + (1 : Nat)) m + (1 : Nat) + (1 : Nat)) : Int)))]),
                                  ((4 : Nat),
                                    Ob.box
                                      [AV.p true
                                          (PV.v
                                            (Value.int IntKind.i64
                                              (IntKind.i64.wrap
                                                (sumF (costF n f p) j + pickV n f (p + j) (30 : Int))))),
                                        AV.own (61 : Nat)]),
                                  ((5 : Nat),
                                    Ob.box
                                      [AV.p true
                                          (PV.v
                                            (Value.int IntKind.i64
                                              (IntKind.i64.wrap
                                                (sumF (costF n f p) j + pickV n f (p + j) (30 : Int))))),
                                        AV.own (61 : Nat)]),
                                  ((61 : Nat),
                                    Ob.row Mode.u true (1 : Nat) (j + (1 : Nat))
                                      (fun (a b : Nat) =>
                                        if a < j then PI (costF n f p a)
                                        else
                                          setG
                                            [((0 : Nat), (0 : Nat),
                                                PV.v
                                                  (Value.int IntKind.i64
                                                    (litI [(0 : Int), (100000 : Int)]
                                                      (pickV n f (oddP (p + j + (1 : Nat)) m + (1 : Nat))
                                                          (2 : Int)).toNat)))]
                                            (fun (x j_1 : Nat) =>
                                              PV.v ([Value.int IntKind.i64 (0 : Int)].getD j_1 undef))
                                            (a - j) b)
                                      [])] })))))
                  (VC.need
                    ((0 : Int) ≤ (21 : Int) ∧
                      (21 : Int) ≤ (21 : Int) ∧
                        (↑(8 : Nat) : Int) * (21 : Int) ≤ (281474976710656 : Int) ∧
                          (21 : Int) ≤ (9223372036854775807 : Int))
                    (VC.done
                      {
                        env :=
                          [((0 : Nat), AV.adr (100000 : Nat) (0 : Nat)),
                            ((1 : Nat), AV.p true (PV.v (Value.int IntKind.i64 m))),
                            ((4 : Nat), AV.adr (4 : Nat) (0 : Nat)), ((5 : Nat), AV.adr (5 : Nat) (0 : Nat)),
                            ((6 : Nat), AV.p true (PV.v (Value.int IntKind.i64 (K - (↑j : Int))))),
                            ((13 : Nat), AV.p true (PV.v (Value.bool (decide ((0 : Int) < K - (↑j : Int)))))),
                            ((38 : Nat), AV.p true (PV.v (Value.bool (oddV n f (p + j + (1 : Nat)) m)))),
                            ((40 : Nat),
                              AV.p true
                                (PV.v (Value.int IntKind.i64 (pickV n f (oddP (p + j + (1 : Nat)) m) (3 : Int))))),
                            ((43 : Nat),
                              AV.p true
                                (PV.v (Value.bool (pickV n f (oddP (p + j + (1 : Nat)) m) (3 : Int) == (0 : Int))))),
                            ((51 : Nat),
                              AV.p true
                                (PV.v (Value.bool (pickV n f (oddP (p + j + (1 : Nat)) m) (3 : Int) == (1 : Int)))))],
                        H :=
                          [((100000 : Nat),
                              Ob.box
                                [AV.p false (PV.sl nn (1 : Nat) n (PB f)),
                                  AV.p true
                                    (PV.v (Value.int IntKind.i64 (↑(oddP (p + j + (1 : Nat)) m + (1 : Nat)) : Int)))]),
                            ((4 : Nat),
                              Ob.box
                                [AV.p true
                                    (PV.v
                                      (Value.int IntKind.i64
                                        (IntKind.i64.wrap (sumF (costF n f p) j + pickV n f (p + j) (30 : Int))))),
                                  AV.own (41 : Nat)]),
                            ((5 : Nat),
                              Ob.box
                                [AV.p true
                                    (PV.v
                                      (Value.int IntKind.i64
                                        (IntKind.i64.wrap (sumF (costF n f p) j + pickV n f (p + j) (30 : Int))))),
                                  AV.own (41 : Nat)]),
                            ((41 : Nat),
                              Ob.row Mode.u true (1 : Nat) (21 : Nat)
                                (fun (x j_1 : Nat) => PV.v ([Value.int IntKind.i64 (0 : Int)].getD j_1 undef))
                                [])] })))))
            (VC.done
              {
                env :=
                  [((0 : Nat), AV.adr (100000 : Nat) (0 : Nat)),
                    ((1 : Nat), AV.p true (PV.v (Value.int IntKind.i64 m))), ((4 : Nat), AV.adr (4 : Nat) (0 : Nat)),
                    ((5 : Nat), AV.adr (5 : Nat) (0 : Nat)),
                    ((6 : Nat), AV.p true (PV.v (Value.int IntKind.i64 (K - (↑j : Int))))),
                    ((13 : Nat), AV.p true (PV.v (Value.bool (decide ((0 : Int) < K - (↑j : Int)))))),
                    ((38 : Nat), AV.p true (PV.v (Value.bool (oddV n f (p + j + (1 : Nat)) m))))],
                H :=
                  [((100000 : Nat),
                      Ob.box
                        [AV.p false (PV.sl nn (1 : Nat) n (PB f)),
                          AV.p true (PV.v (Value.int IntKind.i64 (↑(oddP (p + j + (1 : Nat)) m) : Int)))]),
                    ((4 : Nat),
                      Ob.box
                        [AV.p true
                            (PV.v
                              (Value.int IntKind.i64
                                (IntKind.i64.wrap (sumF (costF n f p) j + pickV n f (p + j) (30 : Int))))),
                          AV.own (8 : Nat)]),
                    ((8 : Nat), Ob.row Mode.u true (1 : Nat) j (fun (i x : Nat) => PI (costF n f p i)) []),
                    ((5 : Nat),
                      Ob.box
                        [AV.p true
                            (PV.v
                              (Value.int IntKind.i64
                                (IntKind.i64.wrap (sumF (costF n f p) j + pickV n f (p + j) (30 : Int))))),
                          AV.own (8 : Nat)])] })))) := by
  intros; kernel_rfl
abbrev LD := Nat × Int × Nat × (Nat → Int)
abbrev ldR (x : LD) : AV := .ag [AI x.2.1, .own 1]
abbrev ldH (nn : Bool) (n : Nat) (f : Nat → Int) (x : LD) : List (Nat × Ob) := [(0, RD nn n f x.1), (1, .row .u false 1 x.2.2.1 (fun i _ => PI (x.2.2.2 i)) [])]
theorem ledger_done {nn : Bool} {n : Nat} {f : Nat → Int} {p : Nat} {s : St} {M : Int} {q N p' : Nat} {b : Bool} {F : Nat → Nat → PV} (F' : Nat → Int) (hq : q ≠ 100000) (h0 : s.get 4 = .adr 4 0) (h1 : look s.H 4 = some (.box [AI M, .own q])) (h2 : look s.H 100000 = some (RD nn n f p'))
    (h3 : look s.H q = some (.row .u b 1 N F [])) (h4 : ∀ i, i < N → F i 0 = PI (F' i)) (h5 : p' ≤ p + 20) (h6 : N ≤ 30) :
    ResOk res46 [(0, RD nn n f p)] s (fun x h => ∃ y : LD, (y.1 ≤ p + 20 ∧ y.2.2.1 ≤ 30) ∧ x = ldR y ∧ h = ldH nn n f y) := by
  refine ResOk.mk [] [(0, 100000), (1, q)] [] (.ag [AI M, .own 1]) [(0, RD nn n f p'), (1, .row .u false 1 N (fun i _ => PI (F' i)) [])] ?_ ⟨(p', M, N, F'), ⟨h5, h6⟩, rfl, rfl⟩
  have e : s.lowers [] = s := rfl
  have e2 : ∀ i, s.obj i = look s.H i := fun _ => rfl
  have hq' : ((100000 : Nat) == q) = false := by simp; omega
  simp [doneC, resOf, resAV, tup, pinR, hbs, e, e2, h0, h1, h2, h3, leObs, obLe, injB, AV.leC, AV.leCs, PV.leC, PV.Le_v, look, rho, isNew, keptC, renH, Mode.ok, Mode.isZ, PV.isVal, PV.isNilSl, res46, hq, hq']
  intro i hi
  rw [h4 i hi]; exact .refl _
theorem c_dL (nn : Bool) (n : Nat) (f : Nat → Int) (p : Nat) (m : Int) (hb : Bytes f) (hp : p ≤ 100000000) : PSome Tryd.prog G0 46 [.adr 0 0, AI m] [(0, RD nn n f p)] LD (fun y => y.1 ≤ p + 20 ∧ y.2.2.1 ≤ 30) (fun y => ldR y) (fun y => ldH nn n f y) := by
  refine PCall.by chk46 rfl (ev_dL nn n f p m) ?_
  simp only [VC.holds_split, VC.holds_need, VC.holds_doneP, VC.holds_done, VC.holds_either, VC.holds_call, VC.holds_callE, VC.holds_lend, VC.holds_stop, VC.holds_fail, decide_eq_true_eq, decide_eq_false_iff_not]
  have rK := pick_rng (n := n) (p := p) (m := 6) hb (by omega) (by omega)
  refine ⟨c_pick _ _ _ _ _ hb (by omega), loop_by (st_dL nn n f (p + 1) m (pickV n f p 6)) (fun j => (j : Int) ≤ pickV n f p 6) (fun j => 6 - j) 0 [] [] [] (by omega) ?_ (evr_dL nn n f p (p + 1) m _) fun j hj => ?_⟩
  · simp [st_dL, hbs, St.lowers, St.lower, stLe, leEnv, leObs, obLe, injB, pinC, AV.leC, AV.leCs, PV.leC, PV.Le_v, St.get, St.obj, look, rho, isNew, keptC, renH, Mode.ok, Mode.isZ, PV.isVal, PV.isNilSl, List.all_nil, List.all_cons, List.any_nil, List.any_cons, List.map_nil, List.map_cons, sumF]
  · have r30 := pick_rng (n := n) (p := p + 1 + j) (m := 30) hb (by omega) (by omega)
    have hod := oddP_le (p + 1 + j + 1) m
    have r3 := pick_rng (n := n) (p := oddP (p + 1 + j + 1) m) (m := 3) hb (by omega) (by omega)
    have r2 := pick_rng (n := n) (p := oddP (p + 1 + j + 1) m + 1) (m := 2) hb (by omega) (by omega)
    have hsum := sumF_bnd (f := costF n f (p + 1)) (lo := 1) (hi := 30) (k := j) fun i hi => by
      have := pick_rng (n := n) (p := p + 1 + i) (m := 30) hb (by omega) (by omega)
      unfold costF; omega
    have w1 : IntKind.i64.wrap (1 + pickV n f (p + 1 + j) 30) = costF n f (p + 1) j := wrap_in (by omega) (by omega)
    have w2 : IntKind.i64.wrap (pickV n f p 6 - (j : Int) - 1) = pickV n f p 6 - ((j + 1 : Nat) : Int) := (wrap_in (by omega) (by omega)).trans (by omega)
    have hc : costF n f (p + 1) j = 1 + pickV n f (p + 1 + j) 30 := rfl
    have w3 : IntKind.i64.wrap (sumF (costF n f (p + 1)) j + costF n f (p + 1) j) = sumF (costF n f (p + 1)) (j + 1) := wrap_in (by omega) (by omega)
    simp only [w1, w2, w3, VC.holds_split, VC.holds_need, VC.holds_doneP, VC.holds_done, VC.holds_either, VC.holds_call, VC.holds_callE, VC.holds_lend, VC.holds_stop, VC.holds_fail, decide_eq_true_eq, decide_eq_false_iff_not]
    refine ⟨fun h => ⟨c_pick _ _ _ _ _ hb (by omega), ⟨by omega, fun i k hi hk => ?_⟩, Again.mk (j + 1) [] [(8, 23)] [] (by omega) (by omega) ?_⟩, fun h => ⟨c_pick _ _ _ _ _ hb (by omega), c_odd _ _ _ _ _ hb (by omega), fun h1 => ⟨c_pick _ _ _ _ _ hb (by omega), fun h2 => ⟨c_pick _ _ _ _ _ hb (by omega), ⟨by omega, by omega⟩, by omega, ?_⟩, fun h2 => ⟨fun h3 => ⟨c_pick _ _ _ _ _ hb (by omega), ⟨by omega, by omega⟩, by omega, ⟨by omega, fun i k hi hk => ?_⟩, ?_⟩, fun h3 => ⟨by omega, ?_⟩⟩⟩, fun h1 => ?_⟩⟩
    · obtain rfl : i = 0 := by omega
      obtain rfl : k = 0 := by omega
      rfl
    · simp [st_dL, hbs, St.lowers, St.lower, stLe, leEnv, leObs, obLe, injB, pinC, AV.leC, AV.leCs, PV.leC, PV.Le_v, St.get, St.obj, look, rho, isNew, keptC, renH, Mode.ok, Mode.isZ, PV.isVal, PV.isNilSl, List.all_nil, List.all_cons, List.any_nil, List.any_cons, List.map_nil, List.map_cons]
      refine ⟨by omega, fun i hi => ?_⟩
      by_cases h4 : i < j
      · simp [h4]; exact .refl _
      · have : i = j := by omega
        subst this
        simp [setG, cellSet]; exact .refl _
    · exact ledger_done (q := 8) (costF n f (p + 1)) (by decide) rfl rfl rfl rfl (fun i hi => rfl) (by omega) (by omega)
    · obtain rfl : i = 0 := by omega
      obtain rfl : k = 0 := by omega
      rfl
    · refine ledger_done (q := 61) (fun i => if i < j then costF n f (p + 1) i else litI [0, 100000] (pickV n f (oddP (p + 1 + j + 1) m + 1) 2).toNat) (by decide) rfl rfl rfl rfl (fun i hi => ?_) (by omega) (by omega)
      by_cases h4 : i < j
      · simp [h4]
      · have : i = j := by omega
        subst this
        simp [setG, cellSet]
    · exact ledger_done (q := 41) (fun _ => 0) (by decide) rfl rfl rfl rfl (fun i hi => rfl) (by omega) (by omega)
    · exact ledger_done (q := 8) (costF n f (p + 1)) (by decide) rfl rfl rfl rfl (fun i hi => rfl) (by omega) (by omega)
def in_dLV (nn : Bool) (n : Nat) (f : Nat → Int) := (G0, res18, ([] : List (Nat × Ob)), [Item.ir ir18], start [.p false (.sl nn 1 n (PB f))] [])
theorem ev_dLV : ∀ (nn : Bool) (n : Nat) (f : Nat → Int),
  ev G0 res18 [] (3000 : Nat)
      (Or.call [] (AV.adr (0 : Nat) (0 : Nat)) [((0 : Nat), RD nn (openN n) f (0 : Nat))]
        (Or.callE [(1004 : Nat)] LD (fun (y : LD) => y.fst ≤ (0 : Nat) + (20 : Nat) ∧ y.snd.snd.fst ≤ (30 : Nat))
          (fun (y : LD) => ldR y) (fun (y : LD) => ldH nn (openN n) f y) fun (y : LD) => Or.nil))
      [Item.ir ir18] (start [AV.p false (PV.sl nn (1 : Nat) n (PB f))] []) =
    VC.call (41 : Nat) [AV.p false (PV.sl nn (1 : Nat) n (PB f))] [] (AV.adr (0 : Nat) (0 : Nat))
      [((0 : Nat), RD nn (openN n) f (0 : Nat))]
      (VC.callE LD (46 : Nat) [AV.adr (0 : Nat) (0 : Nat), AV.p true (PV.v (Value.int IntKind.i64 (2 : Int)))]
        [((0 : Nat),
            Ob.box
              [AV.p false (PV.sl nn (1 : Nat) (openN n) (PB f)),
                AV.p true (PV.v (Value.int IntKind.i64 (↑(0 : Nat) : Int)))])]
        (fun (y : LD) => y.fst ≤ (0 : Nat) + (20 : Nat) ∧ y.snd.snd.fst ≤ (30 : Nat)) (fun (y : LD) => ldR y)
        (fun (y : LD) => ldH nn (openN n) f y) fun (y : LD) =>
        VC.done
          { env := [((0 : Nat), AV.p false (PV.sl nn (1 : Nat) n (PB f))), ((2 : Nat), AV.adr (2 : Nat) (0 : Nat))],
            H :=
              [((2 : Nat), Ob.box [AV.p true (PV.v (Value.int IntKind.i64 y.2.1)), AV.own (1005 : Nat)]),
                ((1005 : Nat), Ob.row Mode.u false (1 : Nat) y.2.2.1 (fun (i x : Nat) => PI (y.2.2.2 i)) [])] }) := by
  intros; kernel_rfl
abbrev LE1 := Int × Nat × (Nat → Int)
abbrev leR (x : LE1) : AV := .ag [AI x.1, .p true (.sl false 1 x.2.1 (fun i _ => PI (x.2.2 i)))]
abbrev leH (x : LE1) : List (Nat × Ob) := []
theorem c_dLV (nn : Bool) (n : Nat) (f : Nat → Int) (hb : Bytes f) : PSome Tryd.prog G0 18 [.p false (.sl nn 1 n (PB f))] [] LE1 (fun y => y.2.1 ≤ 30) (fun y => leR y) (fun y => leH y) := by
  refine PCall.by chk18 rfl (ev_dLV nn n f) ?_
  simp only [VC.holds_split, VC.holds_need, VC.holds_doneP, VC.holds_done, VC.holds_either, VC.holds_call, VC.holds_callE, VC.holds_lend, VC.holds_stop, VC.holds_fail, decide_eq_true_eq, decide_eq_false_iff_not]
  refine ⟨c_open _ _ _, c_dL _ _ _ _ _ hb (by omega), fun y hy => ?_⟩
  refine ResOk.mk [] [] [] (leR y.2) (leH y.2) ?_ ⟨y.2, hy.2, rfl, rfl⟩
  simp [doneC, resOf, resAV, tup, pinR, hbs, St.lowers, St.lower, stLe, leEnv, leObs, obLe, injB, pinC, AV.leC, AV.leCs, PV.leC, PV.Le_v, St.get, St.obj, look, rho, isNew, keptC, renH, Mode.ok, Mode.isZ, PV.isVal, PV.isNilSl, List.all_nil, List.all_cons, List.any_nil, List.any_cons, List.map_nil, List.map_cons, res18]
def in_dLO (nn : Bool) (n : Nat) (f : Nat → Int) := (G0, res25, ([] : List (Nat × Ob)), [Item.ir ir25], start [.p false (.sl nn 1 n (PB f))] [])
theorem ev_dLO : ∀ (nn : Bool) (n : Nat) (f : Nat → Int),
  ev G0 res25 [] (3000 : Nat)
      (Or.call [] (AV.adr (0 : Nat) (0 : Nat)) [((0 : Nat), RD nn (openN n) f (0 : Nat))]
        (Or.callE [(1004 : Nat)] LD (fun (y : LD) => y.fst ≤ (0 : Nat) + (20 : Nat) ∧ y.snd.snd.fst ≤ (30 : Nat))
          (fun (y : LD) => ldR y) (fun (y : LD) => ldH nn (openN n) f y) fun (y : LD) => Or.nil))
      [Item.ir ir25] (start [AV.p false (PV.sl nn (1 : Nat) n (PB f))] []) =
    VC.call (41 : Nat) [AV.p false (PV.sl nn (1 : Nat) n (PB f))] [] (AV.adr (0 : Nat) (0 : Nat))
      [((0 : Nat), RD nn (openN n) f (0 : Nat))]
      (VC.callE LD (46 : Nat) [AV.adr (0 : Nat) (0 : Nat), AV.p true (PV.v (Value.int IntKind.i64 (4 : Int)))]
        [((0 : Nat),
            Ob.box
              [AV.p false (PV.sl nn (1 : Nat) (openN n) (PB f)),
                AV.p true (PV.v (Value.int IntKind.i64 (↑(0 : Nat) : Int)))])]
        (fun (y : LD) => y.fst ≤ (0 : Nat) + (20 : Nat) ∧ y.snd.snd.fst ≤ (30 : Nat)) (fun (y : LD) => ldR y)
        (fun (y : LD) => ldH nn (openN n) f y) fun (y : LD) =>
        VC.done
          { env := [((0 : Nat), AV.p false (PV.sl nn (1 : Nat) n (PB f))), ((2 : Nat), AV.adr (2 : Nat) (0 : Nat))],
            H :=
              [((2 : Nat), Ob.box [AV.p true (PV.v (Value.int IntKind.i64 y.2.1)), AV.own (1005 : Nat)]),
                ((1005 : Nat), Ob.row Mode.u false (1 : Nat) y.2.2.1 (fun (i x : Nat) => PI (y.2.2.2 i)) [])] }) := by
  intros; kernel_rfl
theorem c_dLO (nn : Bool) (n : Nat) (f : Nat → Int) (hb : Bytes f) : PSome Tryd.prog G0 25 [.p false (.sl nn 1 n (PB f))] [] LE1 (fun y => y.2.1 ≤ 30) (fun y => leR y) (fun y => leH y) := by
  refine PCall.by chk25 rfl (ev_dLO nn n f) ?_
  simp only [VC.holds_split, VC.holds_need, VC.holds_doneP, VC.holds_done, VC.holds_either, VC.holds_call, VC.holds_callE, VC.holds_lend, VC.holds_stop, VC.holds_fail, decide_eq_true_eq, decide_eq_false_iff_not]
  refine ⟨c_open _ _ _, c_dL _ _ _ _ _ hb (by omega), fun y hy => ?_⟩
  refine ResOk.mk [] [] [] (leR y.2) (leH y.2) ?_ ⟨y.2, hy.2, rfl, rfl⟩
  simp [doneC, resOf, resAV, tup, pinR, hbs, St.lowers, St.lower, stLe, leEnv, leObs, obLe, injB, pinC, AV.leC, AV.leCs, PV.leC, PV.Le_v, St.get, St.obj, look, rho, isNew, keptC, renH, Mode.ok, Mode.isZ, PV.isVal, PV.isNilSl, List.all_nil, List.all_cons, List.any_nil, List.any_cons, List.map_nil, List.map_cons, res25]
def in_dSC (nn : Bool) (n : Nat) (f : Nat → Int) := (G0, res29, ([] : List (Nat × Ob)), [Item.ir ir29], start [.p false (.sl nn 1 n (PB f))] [])
theorem ev_dSC : ∀ (nn : Bool) (n : Nat) (f : Nat → Int),
  ev G0 res29 [] (3000 : Nat)
      (Or.call [] (AV.adr (0 : Nat) (0 : Nat)) [((0 : Nat), RD nn (openN n) f (0 : Nat))]
        (Or.callE [(1007 : Nat)] LD (fun (y : LD) => y.fst ≤ (0 : Nat) + (20 : Nat) ∧ y.snd.snd.fst ≤ (30 : Nat))
          (fun (y : LD) => ldR y) (fun (y : LD) => ldH nn (openN n) f y) fun (y : LD) =>
          Or.call [(1007 : Nat)] (AI (pickV (openN n) f y.1 (30 : Int)))
            [((0 : Nat), RD nn (openN n) f (y.1 + (1 : Nat)))]
            (Or.call [(1007 : Nat)] (AI (pickV (openN n) f (y.1 + (1 : Nat)) (7 : Int)))
              [((0 : Nat), RD nn (openN n) f (y.1 + (1 : Nat) + (1 : Nat)))] Or.nil)))
      [Item.ir ir29] (start [AV.p false (PV.sl nn (1 : Nat) n (PB f))] []) =
    VC.call (41 : Nat) [AV.p false (PV.sl nn (1 : Nat) n (PB f))] [] (AV.adr (0 : Nat) (0 : Nat))
      [((0 : Nat), RD nn (openN n) f (0 : Nat))]
      (VC.callE LD (46 : Nat) [AV.adr (0 : Nat) (0 : Nat), AV.p true (PV.v (Value.int IntKind.i64 (9 : Int)))]
        [((0 : Nat),
            Ob.box
              [AV.p false (PV.sl nn (1 : Nat) (openN n) (PB f)),
                AV.p true (PV.v (Value.int IntKind.i64 (↑(0 : Nat) : Int)))])]
        (fun (y : LD) => y.fst ≤ (0 : Nat) + (20 : Nat) ∧ y.snd.snd.fst ≤ (30 : Nat)) (fun (y : LD) => ldR y)
        (fun (y : LD) => ldH nn (openN n) f y) fun (y : LD) =>
        VC.call (42 : Nat) [AV.adr (0 : Nat) (0 : Nat), AV.p true (PV.v (Value.int IntKind.i64 (30 : Int)))]
          [((0 : Nat),
              Ob.box
                [AV.p false (PV.sl nn (1 : Nat) (openN n) (PB f)),
                  AV.p true (PV.v (Value.int IntKind.i64 (↑y.1 : Int)))])]
          (AI (pickV (openN n) f y.1 (30 : Int))) [((0 : Nat), RD nn (openN n) f (y.1 + (1 : Nat)))]
          (VC.call (42 : Nat) [AV.adr (0 : Nat) (0 : Nat), AV.p true (PV.v (Value.int IntKind.i64 (7 : Int)))]
            [((0 : Nat),
                Ob.box
                  [AV.p false (PV.sl nn (1 : Nat) (openN n) (PB f)),
                    AV.p true (PV.v (Value.int IntKind.i64 (↑(y.1 + (1 : Nat)) : Int)))])]
            (AI (pickV (openN n) f (y.1 + (1 : Nat)) (7 : Int)))
            [((0 : Nat), RD nn (openN n) f (y.1 + (1 : Nat) + (1 : Nat)))]
            (VC.need
              ((0 : Int) ≤ pickV (openN n) f (y.1 + (1 : Nat)) (7 : Int) ∧
                (pickV (openN n) f (y.1 + (1 : Nat)) (7 : Int)).toNat < (7 : Nat))
              (VC.need ((pickV (openN n) f (y.1 + (1 : Nat)) (7 : Int)).toNat < (7 : Nat))
                (VC.need
                  ((0 : Int) ≤
                      litI [(0 : Int), (0 : Int), (0 : Int), (0 : Int), (1 : Int), (2 : Int), (3 : Int)]
                        (pickV (openN n) f (y.1 + (1 : Nat)) (7 : Int)).toNat ∧
                    (litI [(0 : Int), (0 : Int), (0 : Int), (0 : Int), (1 : Int), (2 : Int), (3 : Int)]
                          (pickV (openN n) f (y.1 + (1 : Nat)) (7 : Int)).toNat).toNat <
                      (4 : Nat))
                  (VC.need
                    ((litI [(0 : Int), (0 : Int), (0 : Int), (0 : Int), (1 : Int), (2 : Int), (3 : Int)]
                          (pickV (openN n) f (y.1 + (1 : Nat)) (7 : Int)).toNat).toNat <
                      (4 : Nat))
                    (VC.done
                      {
                        env :=
                          [((0 : Nat), AV.p false (PV.sl nn (1 : Nat) n (PB f))),
                            ((2 : Nat), AV.adr (2 : Nat) (0 : Nat)),
                            ((3 : Nat),
                              AV.p true
                                (PV.v
                                  (Value.int IntKind.i64
                                    (litI
                                      [IntKind.i64.wrap ((1 : Int) + pickV (openN n) f y.1 (30 : Int)), (0 : Int),
                                        (-1 : Int), (100000 : Int)]
                                      (litI
                                          [(0 : Int), (0 : Int), (0 : Int), (0 : Int), (1 : Int), (2 : Int), (3 : Int)]
                                          (pickV (openN n) f (y.1 + (1 : Nat)) (7 : Int)).toNat).toNat)))),
                            ((4 : Nat), AV.adr (1007 : Nat) (0 : Nat)), ((5 : Nat), AV.adr (5 : Nat) (0 : Nat))],
                        H :=
                          [((2 : Nat), Ob.box [AV.p true (PV.v (Value.int IntKind.i64 y.2.1)), AV.own (1009 : Nat)]),
                            ((1007 : Nat),
                              Ob.box
                                [AV.p false (PV.sl nn (1 : Nat) (openN n) (PB f)),
                                  AV.p true (PV.v (Value.int IntKind.i64 (↑(y.1 + (1 : Nat) + (1 : Nat)) : Int)))]),
                            ((1009 : Nat),
                              Ob.row Mode.u false (1 : Nat) y.2.2.1 (fun (i x : Nat) => PI (y.2.2.2 i)) []),
                            ((5 : Nat),
                              Ob.box [AV.p true (PV.v (Value.int IntKind.i64 y.2.1)), AV.own (1009 : Nat)])] }))))))) := by
  intros; kernel_rfl
abbrev LE2 := LE1 × Int
abbrev le2R (x : LE2) : AV := .tp [leR x.1, AI x.2]
theorem dSC_done {s : St} {M c : Int} {q N : Nat} {b : Bool} {F : Nat → Int} (h : resOf res29 s = some (.tp [.ag [AI M, .own q], AI c])) (hq : look s.H q = some (.row .u b 1 N (fun i _ => PI (F i)) [])) (hN : N ≤ 30) :
    ResOk res29 [] s (fun x h => ∃ y : LE2, y.1.2.1 ≤ 30 ∧ x = le2R y ∧ h = leH y.1) := by
  refine ResOk.mk [] [] [] (le2R ((M, N, F), c)) (leH (M, N, F)) ?_ ⟨((M, N, F), c), hN, rfl, rfl⟩
  have e : s.lowers [] = s := rfl
  have e2 : ∀ i, s.obj i = look s.H i := fun _ => rfl
  simp [doneC, pinR, hbs, e, e2, h, hq, leObs, obLe, injB, AV.leC, AV.leCs, PV.leC, PV.Le_v, look, rho, isNew, keptC, renH, Mode.ok, Mode.isZ, PV.isVal, PV.isNilSl]
theorem c_dSC (nn : Bool) (n : Nat) (f : Nat → Int) (hb : Bytes f) : PSome Tryd.prog G0 29 [.p false (.sl nn 1 n (PB f))] [] LE2 (fun y => y.1.2.1 ≤ 30) (fun y => le2R y) (fun y => leH y.1) := by
  refine PCall.by chk29 rfl (ev_dSC nn n f) ?_
  simp only [VC.holds_split, VC.holds_need, VC.holds_doneP, VC.holds_done, VC.holds_either, VC.holds_call, VC.holds_callE, VC.holds_lend, VC.holds_stop, VC.holds_fail, decide_eq_true_eq, decide_eq_false_iff_not]
  refine ⟨c_open _ _ _, c_dL _ _ _ _ _ hb (by omega), ?_⟩
  rintro ⟨p', M, N, F⟩ hy
  simp only [] at hy ⊢
  have r1 := pick_rng (n := openN n) (p := p' + 1) (m := 7) hb (by omega) (by omega)
  have r2 := lit_rng (lo := 0) (hi := 3) (l := [0, 0, 0, 0, 1, 2, 3]) (by decide) (i := (pickV (openN n) f (p' + 1) 7).toNat) (by simp only [List.length_cons, List.length_nil]; omega)
  exact ⟨c_pick _ _ _ _ _ hb (by omega), c_pick _ _ _ _ _ hb (by omega), ⟨r1.1, by omega⟩, by omega, ⟨r2.1, by omega⟩, by omega, dSC_done rfl rfl hy.2⟩
theorem intOf_PI (x : Int) : intOf (PI x) = x := rfl
theorem intOf_fun (F : Nat → Int) : (fun i => intOf (PI (F i))) = F := rfl
theorem sumF_add (F : Nat → Int) (a : Nat) : ∀ k, sumF F (a + k) = sumF F a + sumF (fun i => F (i + a)) k
  | 0 => by simp [sumF]
  | k + 1 => by
    have := sumF_add F a k
    have e : a + (k + 1) = (a + k) + 1 := by omega
    have e2 : k + a = a + k := by omega
    rw [e]
    simp only [sumF, e2]
    omega
theorem sumF_nonneg {F : Nat → Int} {k : Nat} (h : ∀ i, i < k → 1 ≤ F i) : 0 ≤ sumF F k := by
  induction k with
  | zero => simp [sumF]
  | succ k ih =>
    have := ih fun i hi => h i (by omega)
    have := h k (by omega)
    simp only [sumF]; omega
theorem lv_mk {b : Int} {n : Nat} {F : Nat → Int} (h1 : 0 ≤ b) (h2 : b ≤ 100000) (h3 : n ≤ 20) (h4 : ∀ i, i < n → 1 ≤ F i ∧ F i ≤ 100000) (h5 : sumF F n ≤ b) : ledgerValid b n F = true := by
  simp only [ledgerValid, Bool.and_eq_true, decide_eq_true_eq]
  exact ⟨⟨⟨inB_iff.2 ⟨h1, h2⟩, h3⟩, allB_iff.2 fun i hi => inB_iff.2 (h4 i hi)⟩, h5⟩
theorem lv_part {b : Int} {n a : Nat} {F : Nat → Int} (h : ledgerValid b n F = true) (ha : a ≤ n) : ledgerValid b (n - a) (fun i => F (i + a)) = true := by
  obtain ⟨h1, h2, h3, h4⟩ := lv_all h
  have e := sumF_add F a (n - a)
  rw [show a + (n - a) = n by omega] at e
  have := sumF_nonneg (F := F) (k := a) fun i hi => (h3 i (by omega)).1
  exact lv_mk h1.1 h1.2 (by omega) (fun i hi => h3 (i + a) (by omega)) (by omega)
theorem lv_more {b : Int} {n : Nat} {F : Nat → Int} {c : Int} (h : F n = c) (hc : 0 ≤ b → b ≤ 100000 → b < c) : ledgerValid b (n + 1) F = false := by
  cases h0 : ledgerValid b (n + 1) F with
  | false => rfl
  | true =>
    obtain ⟨h1, h2, h3, h4⟩ := lv_all h0
    have := sumF_nonneg (F := F) (k := n) fun i hi => (h3 i (by omega)).1
    have := hc h1.1 h1.2
    simp only [sumF] at h4
    omega
theorem leftOf_neg {b : Int} {n : Nat} {F : Nat → Int} (h : leftOf b n F < 0) : leftOf b n F = -1 ∧ ledgerValid b n F = false := by
  cases h0 : ledgerValid b n F with
  | false => exact ⟨by simp [leftOf, h0], rfl⟩
  | true =>
    have := lv_all h0
    simp only [leftOf, h0, if_true] at h
    omega
theorem leftOf_pos {b : Int} {n : Nat} {F : Nat → Int} (h : ¬ leftOf b n F < 0) : ledgerValid b n F = true ∧ leftOf b n F = b - sumF F n ∧ leftOf b n F ≤ b := by
  cases h0 : ledgerValid b n F with
  | false => simp only [leftOf, h0] at h; simp at h
  | true =>
    obtain ⟨h1, h2, h3, h4⟩ := lv_all h0
    have := sumF_nonneg (F := F) (k := n) fun i hi => (h3 i (by omega)).1
    have e : leftOf b n F = b - sumF F n := by simp [leftOf, h0]
    exact ⟨rfl, e, by omega⟩
theorem sumF_snoc {F : Nat → Int} {n : Nat} {c : Int} : sumF (snoc F n c) (n + 1) = sumF F n + c := by
  have e : sumF (snoc F n c) n = sumF F n := sumF_congr fun i hi => by simp [snoc, hi]
  simp only [sumF, e]
  simp [snoc]
theorem spend_yes {b : Int} {n : Nat} {F : Nat → Int} {c : Int} (h : spendOk b n F c = true) : spendB b n F = b ∧ spendN b n F c = n + 1 ∧ ledgerValid b n F = true ∧ ledgerValid b (n + 1) (snoc F n c) = true := by
  simp only [spendOk, Bool.and_eq_true] at h
  simp [spendB, spendN, h.1, h.2]
theorem spend_no {b : Int} {n : Nat} {F : Nat → Int} {c : Int} (h : spendOk b n F c = false) : (spendN b n F c = n ∧ ledgerValid b n F = true) ∨ spendN b n F c = 0 := by
  cases h0 : ledgerValid b n F with
  | false => right; simp [spendN, h0]
  | true =>
    left
    simp only [spendOk, h0, Bool.true_and] at h
    simp [spendN, h0, h]
def revF (F : Nat → Int) (n : Nat) : Nat → Int := fun i => F (n - 1 - i)
theorem sumF_rev (F : Nat → Int) (n : Nat) : sumF (revF F n) n = sumF F n := by
  have key : ∀ k, k ≤ n → sumF (revF F n) k + sumF F (n - k) = sumF F n := by
    intro k
    induction k with
    | zero => intro _; simp [sumF]
    | succ k ih =>
      intro hk
      have := ih (by omega)
      have e : n - k = (n - (k + 1)) + 1 := by omega
      rw [e] at this
      simp only [sumF] at this ⊢
      have e2 : revF F n k = F (n - (k + 1)) := by unfold revF; congr 1; omega
      omega
  have := key n (Nat.le_refl _)
  simpa [sumF] using this
theorem lv_rev {b : Int} {n : Nat} {F : Nat → Int} : ledgerValid b n (revF F n) = ledgerValid b n F := by
  have e : allB (fun i => inB (revF F n i) 1 100000) n = allB (fun i => inB (F i) 1 100000) n := by
    cases h : allB (fun i => inB (F i) 1 100000) n with
    | true => exact allB_iff.2 fun i hi => allB_iff.1 h (n - 1 - i) (by omega)
    | false =>
      cases h2 : allB (fun i => inB (revF F n i) 1 100000) n with
      | false => rfl
      | true =>
        have : allB (fun i => inB (F i) 1 100000) n = true := allB_iff.2 fun i hi => by
          have := allB_iff.1 h2 (n - 1 - i) (by omega)
          simp only [revF] at this
          rwa [show n - 1 - (n - 1 - i) = i by omega] at this
        rw [h] at this; cases this
  simp only [ledgerValid, e, sumF_rev]
theorem leftOf_rev {b : Int} {n : Nat} {F : Nat → Int} : leftOf b n (revF F n) = leftOf b n F := by simp only [leftOf, lv_rev, sumF_rev]
def in_lLV (nn : Bool) (n : Nat) (f : Nat → Int) := (G0, res4, ([] : List (Nat × Ob)), [Item.ir ir4], start [.p false (.sl nn 1 n (PB f))] [])
theorem ev_lLV : ∀ (nn : Bool) (n : Nat) (f : Nat → Int),
  ev G0 res4 [] (3000 : Nat)
      (Or.nil.split
        (Or.callE [] LE1 (fun (y : LE1) => y.snd.fst ≤ (30 : Nat)) (fun (y : LE1) => leR y) (fun (y : LE1) => leH y)
          fun (y : LE1) =>
          Or.call [] (AB (ledgerValid y.1 y.2.1 fun (i : Nat) => intOf (PI (y.2.2 i)))) []
            (Or.call [] (AB (ledgerValid y.1 y.2.1 fun (i : Nat) => intOf (PI (y.2.2 i)))) []
              (Or.nil.split
                (Or.call []
                  (AB
                    (ledgerValid y.1 ((0 : Nat) + y.2.1 + (1 : Nat)) fun (i : Nat) =>
                      intOf
                        (if i < (0 : Nat) + y.2.1 then
                          if i < (0 : Nat) then
                            setG [] (fun (x j : Nat) => PV.v ([Value.int IntKind.i64 (0 : Int)].getD j undef)) i
                              (0 : Nat)
                          else PI (y.2.2 (i - (0 : Nat)))
                        else
                          setG
                            [((0 : Nat), (0 : Nat),
                                PV.v
                                  (Value.int IntKind.i64
                                    (if true = true then
                                      if IntKind.i64.wrap (y.1 + (1 : Int)) > (1 : Int) then
                                        IntKind.i64.wrap (y.1 + (1 : Int))
                                      else (1 : Int)
                                    else
                                      if IntKind.i64.wrap (y.1 + (1 : Int)) < (1 : Int) then
                                        IntKind.i64.wrap (y.1 + (1 : Int))
                                      else (1 : Int))))]
                            (fun (x j : Nat) => PV.v ([Value.int IntKind.i64 (0 : Int)].getD j undef))
                            (i - ((0 : Nat) + y.2.1)) (0 : Nat))))
                  []
                  (((Or.call [] (AB true) [] Or.nil.lit).lit.lit.lit.lit.lit.lit.lit.lit.lit.lit.lit.lit.lit.lit.split
                            (Or.call []
                                                  (AB
                                                    (ledgerValid y.1
                                                      ((↑y.2.1 : Int) -
                                                          IntKind.i64.wrap ((↑y.2.1 : Int).tdiv (2 : Int))).toNat
                                                      fun (i : Nat) =>
                                                      intOf
                                                        (PI
                                                          (y.2.2
                                                            (i +
                                                              (IntKind.i64.wrap
                                                                  ((↑y.2.1 : Int).tdiv (2 : Int))).toNat)))))
                                                  []
                                                  ((Or.call [] (AB true) [] Or.nil.lit).split
                                                          Or.nil.lit).lit.lit.lit).lit.lit.lit.lit.lit.lit.lit.lit.lit.lit).lit.lit.split
                    Or.nil.lit.lit.lit.lit.lit.lit))))))
      [Item.ir ir4] (start [AV.p false (PV.sl nn (1 : Nat) n (PB f))] []) =
    VC.split (decide ((1048576 : Int) < (↑n : Int))) (VC.doneP (AV.p true (PV.v (Value.bool true))))
      (VC.callE LE1 (18 : Nat) [AV.p false (PV.sl nn (1 : Nat) n (PB f))] [] (fun (y : LE1) => y.snd.fst ≤ (30 : Nat))
        (fun (y : LE1) => leR y) (fun (y : LE1) => leH y) fun (y : LE1) =>
        VC.call (19 : Nat)
          [AV.ag
              [AV.p true (PV.v (Value.int IntKind.i64 y.1)),
                AV.p false (PV.sl false (1 : Nat) y.2.1 fun (i x : Nat) => PI (y.2.2 i))]]
          [] (AB (ledgerValid y.1 y.2.1 fun (i : Nat) => intOf (PI (y.2.2 i)))) []
          (VC.call (20 : Nat)
            [AV.ag
                [AV.p true (PV.v (Value.int IntKind.i64 y.1)),
                  AV.p false (PV.sl false (1 : Nat) y.2.1 fun (i x : Nat) => PI (y.2.2 i))]]
            [] (AB (ledgerValid y.1 y.2.1 fun (i : Nat) => intOf (PI (y.2.2 i)))) []
            (VC.split
              (!(ledgerValid y.1 y.2.1 fun (i : Nat) => intOf (PI (y.2.2 i))) ==
                  ledgerValid y.1 y.2.1 fun (i : Nat) => intOf (PI (y.2.2 i)))
              (VC.doneP (AV.p true (PV.v (Value.bool false))))
              (VC.need
                ((((0 : Nat) + y.2.1) * (8 : Nat) ≤ (140737488355328 : Nat) ∧
                    (↑((0 : Nat) + y.2.1) : Int) ≤ (9223372036854775807 : Int)) ∧
                  allV (1 : Nat) y.2.1 fun (i x : Nat) => PI (y.2.2 i))
                (VC.need
                  ((((0 : Nat) + y.2.1 + (1 : Nat)) * (8 : Nat) ≤ (140737488355328 : Nat) ∧
                      (↑((0 : Nat) + y.2.1 + (1 : Nat)) : Int) ≤ (9223372036854775807 : Int)) ∧
                    allV (1 : Nat) (1 : Nat)
                      (setG
                        [((0 : Nat), (0 : Nat),
                            PV.v
                              (Value.int IntKind.i64
                                (if true = true then
                                  if IntKind.i64.wrap (y.1 + (1 : Int)) > (1 : Int) then
                                    IntKind.i64.wrap (y.1 + (1 : Int))
                                  else (1 : Int)
                                else
                                  if IntKind.i64.wrap (y.1 + (1 : Int)) < (1 : Int) then
                                    IntKind.i64.wrap (y.1 + (1 : Int))
                                  else (1 : Int))))]
                        fun (x j : Nat) => PV.v ([Value.int IntKind.i64 (0 : Int)].getD j undef)))
                  (VC.call (19 : Nat)
                    [AV.ag
                        [AV.p true (PV.v (Value.int IntKind.i64 y.1)),
                          AV.p false
                            (PV.sl true (1 : Nat) ((0 : Nat) + y.2.1 + (1 : Nat)) fun (a b : Nat) =>
                              if a < (0 : Nat) + y.2.1 then
                                if a < (0 : Nat) then
                                  setG [] (fun (x j : Nat) => PV.v ([Value.int IntKind.i64 (0 : Int)].getD j undef)) a b
                                else PI (y.2.2 (a - (0 : Nat)))
                              else
                                setG
                                  [((0 : Nat), (0 : Nat),
                                      PV.v
                                        (Value.int IntKind.i64
                                          (if true = true then
                                            if IntKind.i64.wrap (y.1 + (1 : Int)) > (1 : Int) then
                                              IntKind.i64.wrap (y.1 + (1 : Int))
                                            else (1 : Int)
                                          else
                                            if IntKind.i64.wrap (y.1 + (1 : Int)) < (1 : Int) then
                                              IntKind.i64.wrap (y.1 + (1 : Int))
                                            else (1 : Int))))]
                                  (fun (x j : Nat) => PV.v ([Value.int IntKind.i64 (0 : Int)].getD j undef))
                                  (a - ((0 : Nat) + y.2.1)) b)]]
                    []
                    (AB
                      (ledgerValid y.1 ((0 : Nat) + y.2.1 + (1 : Nat)) fun (i : Nat) =>
                        intOf
                          (if i < (0 : Nat) + y.2.1 then
                            if i < (0 : Nat) then
                              setG [] (fun (x j : Nat) => PV.v ([Value.int IntKind.i64 (0 : Int)].getD j undef)) i
                                (0 : Nat)
                            else PI (y.2.2 (i - (0 : Nat)))
                          else
                            setG
                              [((0 : Nat), (0 : Nat),
                                  PV.v
                                    (Value.int IntKind.i64
                                      (if true = true then
                                        if IntKind.i64.wrap (y.1 + (1 : Int)) > (1 : Int) then
                                          IntKind.i64.wrap (y.1 + (1 : Int))
                                        else (1 : Int)
                                      else
                                        if IntKind.i64.wrap (y.1 + (1 : Int)) < (1 : Int) then
                                          IntKind.i64.wrap (y.1 + (1 : Int))
                                        else (1 : Int))))]
                              (fun (x j : Nat) => PV.v ([Value.int IntKind.i64 (0 : Int)].getD j undef))
                              (i - ((0 : Nat) + y.2.1)) (0 : Nat))))
                    []
                    (VC.split
                      (!ledgerValid y.1 ((0 : Nat) + y.2.1 + (1 : Nat)) fun (i : Nat) =>
                          intOf
                            (if i < (0 : Nat) + y.2.1 then
                              if i < (0 : Nat) then
                                setG [] (fun (x j : Nat) => PV.v ([Value.int IntKind.i64 (0 : Int)].getD j undef)) i
                                  (0 : Nat)
                              else PI (y.2.2 (i - (0 : Nat)))
                            else
                              setG
                                [((0 : Nat), (0 : Nat),
                                    PV.v
                                      (Value.int IntKind.i64
                                        (if true = true then
                                          if IntKind.i64.wrap (y.1 + (1 : Int)) > (1 : Int) then
                                            IntKind.i64.wrap (y.1 + (1 : Int))
                                          else (1 : Int)
                                        else
                                          if IntKind.i64.wrap (y.1 + (1 : Int)) < (1 : Int) then
                                            IntKind.i64.wrap (y.1 + (1 : Int))
                                          else (1 : Int))))]
                                (fun (x j : Nat) => PV.v ([Value.int IntKind.i64 (0 : Int)].getD j undef))
                                (i - ((0 : Nat) + y.2.1)) (0 : Nat)))
                      (VC.split (!ledgerValid y.1 y.2.1 fun (i : Nat) => intOf (PI (y.2.2 i)))
                        (VC.call (17 : Nat) [] [] (AB true) [] (VC.doneP (AV.p true (PV.v (Value.bool true)))))
                        (VC.need ((2 : Int) ≠ (0 : Int))
                          (VC.need
                            ((0 : Int) ≤ IntKind.i64.wrap ((↑y.2.1 : Int).tdiv (2 : Int)) ∧
                              IntKind.i64.wrap ((↑y.2.1 : Int).tdiv (2 : Int)) ≤ (↑y.2.1 : Int) ∧
                                (↑y.2.1 : Int) ≤ (↑y.2.1 : Int))
                            (VC.call (19 : Nat)
                              [AV.ag
                                  [AV.p true (PV.v (Value.int IntKind.i64 y.1)),
                                    AV.p false
                                      (PV.sl false (1 : Nat)
                                        ((↑y.2.1 : Int) - IntKind.i64.wrap ((↑y.2.1 : Int).tdiv (2 : Int))).toNat
                                        fun (i j : Nat) =>
                                        PI (y.2.2 (i + (IntKind.i64.wrap ((↑y.2.1 : Int).tdiv (2 : Int))).toNat)))]]
                              []
                              (AB
                                (ledgerValid y.1
                                  ((↑y.2.1 : Int) - IntKind.i64.wrap ((↑y.2.1 : Int).tdiv (2 : Int))).toNat
                                  fun (i : Nat) =>
                                  intOf (PI (y.2.2 (i + (IntKind.i64.wrap ((↑y.2.1 : Int).tdiv (2 : Int))).toNat)))))
                              []
                              (VC.split
                                (ledgerValid y.1
                                  ((↑y.2.1 : Int) - IntKind.i64.wrap ((↑y.2.1 : Int).tdiv (2 : Int))).toNat
                                  fun (i : Nat) =>
                                  intOf (PI (y.2.2 (i + (IntKind.i64.wrap ((↑y.2.1 : Int).tdiv (2 : Int))).toNat))))
                                (VC.call (17 : Nat) [] [] (AB true) [] (VC.doneP (AV.p true (PV.v (Value.bool true)))))
                                (VC.doneP (AV.p true (PV.v (Value.bool false)))))))))
                      (VC.doneP (AV.p true (PV.v (Value.bool false))))))))))) := by
  intros; kernel_rfl
theorem half_int {N : Nat} : ((N : Int).tdiv 2) = ((N / 2 : Nat) : Int) := by rw [Int.tdiv_eq_ediv_of_nonneg (by omega)]; omega
theorem c_lLV (nn : Bool) (n : Nat) (f : Nat → Int) (hb : Bytes f) : PRet Tryd.prog G0 4 [.p false (.sl nn 1 n (PB f))] (AB true) := by
  refine PRet.by chk4 (ev_lLV nn n f) ?_
  simp only [VC.holds_split, VC.holds_need, VC.holds_doneP, VC.holds_done, VC.holds_either, VC.holds_call, VC.holds_callE, VC.holds_lend, VC.holds_stop, VC.holds_fail, decide_eq_true_eq, decide_eq_false_iff_not, intOf_PI]
  refine ⟨fun h => by simp, fun h => ⟨c_dLV nn n f hb, ?_⟩⟩
  rintro ⟨M, N, F⟩ hy
  simp only [] at hy ⊢
  have hF := int_cells F N
  have hh : IntKind.i64.wrap ((N / 2 : Nat) : Int) = ((N / 2 : Nat) : Int) := wrap_in (by omega) (by omega)
  have h2' : ((N : Int) - ((N / 2 : Nat) : Int)).toNat = N - N / 2 := by omega
  simp only [half_int, hh, Int.toNat_natCast, h2', Nat.zero_add]
  have hc : ∀ {c : Int}, (if True then if IntKind.i64.wrap (M + 1) > 1 then IntKind.i64.wrap (M + 1) else 1 else if IntKind.i64.wrap (M + 1) < 1 then IntKind.i64.wrap (M + 1) else 1) = c → 0 ≤ M → M ≤ 100000 → M < c := by
    intro c hc h0 h1
    have w : IntKind.i64.wrap (M + 1) = M + 1 := wrap_in (by omega) (by omega)
    rw [w] at hc
    simp at hc
    split at hc <;> omega
  refine ⟨c_imLV _ _ _ _ hF (by omega), c_spLV _ _ _ _ hF (by omega), fun h1 => by simp at h1, fun h1 => ⟨⟨by omega, fun i j hi hj => rfl⟩, ⟨by omega, fun i j hi hj => ?_⟩, c_imLV _ _ _ _ ?_ (by omega), fun h2 => ⟨fun h3 => ⟨c_alive, by simp⟩, fun h3 => ⟨by omega, ⟨by omega, by omega, by omega⟩, c_imLV _ _ _ _ (fun i j hi hj => rfl) (by omega), fun h4 => ⟨c_alive, by simp⟩, fun h4 => ?_⟩⟩, fun h2 => ?_⟩⟩
  · obtain rfl : i = 0 := by omega
    obtain rfl : j = 0 := by omega
    rfl
  · intro i j hi hj
    obtain rfl : j = 0 := by omega
    by_cases h2 : i < N
    · simp [h2, intOf]
    · have : i - N = 0 := by omega
      simp [h2, this, setG, cellSet, intOf]
  · simp only [Bool.not_eq_false'] at h3
    rw [lv_part h3 (Nat.div_le_self _ _)] at h4
    cases h4
  · exfalso
    rw [lv_more (c := _) ?_ (hc rfl)] at h2
    · cases h2
    · simp [setG, cellSet, intOf]
theorem law_FnLedgerValid (xs : List AV) (h : Args Tryd.prog Tryd.f4.params.toList xs) : PRet Tryd.prog G0 4 xs (AB true) := by
  have hp : Tryd.f4.params.toList = [22] := by kernel_rfl
  rw [hp] at h
  obtain ⟨nn, n, f, c, cs, hb, h2, rfl, hle⟩ := args_bytes h
  cases h2
  exact (c_lLV nn n f hb).args ⟨hle, trivial⟩
def in_lLOr (nn : Bool) (n : Nat) (f : Nat → Int) := (G0, res7, ([] : List (Nat × Ob)), [Item.ir ir7], start [.p false (.sl nn 1 n (PB f))] [])
theorem ev_lLOr : ∀ (nn : Bool) (n : Nat) (f : Nat → Int),
  ev G0 res7 [] (3000 : Nat)
      (Or.nil.split
        (Or.callE [] LE1 (fun (y : LE1) => y.snd.fst ≤ (30 : Nat)) (fun (y : LE1) => leR y) (fun (y : LE1) => leH y)
          fun (y : LE1) =>
          Or.call [] (AI (leftOf y.1 y.2.1 fun (i : Nat) => intOf (PI (y.2.2 i)))) []
            (Or.call [] (AI (leftOf y.1 y.2.1 fun (i : Nat) => intOf (PI (y.2.2 i)))) [] (Or.nil.split Or.nil))))
      [Item.ir ir7] (start [AV.p false (PV.sl nn (1 : Nat) n (PB f))] []) =
    VC.split (decide ((1048576 : Int) < (↑n : Int))) (VC.doneP (AV.p true (PV.v (Value.bool true))))
      (VC.callE LE1 (25 : Nat) [AV.p false (PV.sl nn (1 : Nat) n (PB f))] [] (fun (y : LE1) => y.snd.fst ≤ (30 : Nat))
        (fun (y : LE1) => leR y) (fun (y : LE1) => leH y) fun (y : LE1) =>
        VC.call (26 : Nat)
          [AV.ag
              [AV.p true (PV.v (Value.int IntKind.i64 y.1)),
                AV.p false (PV.sl false (1 : Nat) y.2.1 fun (i x : Nat) => PI (y.2.2 i))]]
          [] (AI (leftOf y.1 y.2.1 fun (i : Nat) => intOf (PI (y.2.2 i)))) []
          (VC.call (27 : Nat)
            [AV.ag
                [AV.p true (PV.v (Value.int IntKind.i64 y.1)),
                  AV.p false (PV.sl false (1 : Nat) y.2.1 fun (i x : Nat) => PI (y.2.2 i))]]
            [] (AI (leftOf y.1 y.2.1 fun (i : Nat) => intOf (PI (y.2.2 i)))) []
            (VC.split
              ((leftOf y.1 y.2.1 fun (i : Nat) => intOf (PI (y.2.2 i))) !=
                leftOf y.1 y.2.1 fun (i : Nat) => intOf (PI (y.2.2 i)))
              (VC.doneP (AV.p true (PV.v (Value.bool false))))
              (VC.loop ir7_L1 [Item.bend (0 : Nat), Item.ir ir7_T2]
                {
                  env :=
                    [((0 : Nat), AV.p false (PV.sl nn (1 : Nat) n (PB f))),
                      ((2 : Nat), AV.p true (PV.v (Value.bool false))),
                      ((9 : Nat), AV.p true (PV.v (Value.bool (decide ((1048576 : Int) < (↑n : Int)))))),
                      ((3 : Nat), AV.adr (3 : Nat) (0 : Nat)),
                      ((4 : Nat),
                        AV.p true
                          (PV.v (Value.int IntKind.i64 (leftOf y.1 y.2.1 fun (i : Nat) => intOf (PI (y.2.2 i)))))),
                      ((17 : Nat),
                        AV.p true
                          (PV.v
                            (Value.bool
                              ((leftOf y.1 y.2.1 fun (i : Nat) => intOf (PI (y.2.2 i))) !=
                                leftOf y.1 y.2.1 fun (i : Nat) => intOf (PI (y.2.2 i)))))),
                      ((5 : Nat), AV.own (18 : Nat)),
                      ((6 : Nat),
                        AV.p true (PV.v (Value.int IntKind.i64 (IntKind.i64.wrap ((↑y.2.1 : Int) - (1 : Int))))))],
                  H :=
                    [((3 : Nat),
                        Ob.box
                          [AV.p true (PV.v (Value.int IntKind.i64 y.1)),
                            AV.p true (PV.sl false (1 : Nat) y.2.1 fun (i x : Nat) => PI (y.2.2 i))]),
                      ((18 : Nat),
                        Ob.row Mode.u true (1 : Nat) (0 : Nat)
                          (setG [] fun (x j : Nat) => PV.v ([Value.int IntKind.i64 (0 : Int)].getD j undef)) [])] })))) := by
  intros; kernel_rfl
def st_lLOr (M : Int) (N : Nat) (F : Nat → Int) (k : Nat) : St := ⟨[(3, .adr 3 0), (4, AI (leftOf M N F)), (5, .own 5), (6, AI ((N : Int) - 1 - k))], [(3, .box [AI M, .p true (.sl false 1 N (fun i _ => PI (F i)))]), (5, .row .u true 1 k (fun i _ => PI (revF F N i)) [])]⟩
def r_lLOr (M : Int) (N : Nat) (F : Nat → Int) (I : Nat → St → Prop) (k : Nat) := (G0, res7, ([] : List (Nat × Ob)), [Item.ir ir7_L1, .lend (I k), Item.bend 0, Item.ir ir7_T2], st_lLOr M N F k)
theorem evr_lLOr : ∀ (M : Int) (N : Nat) (F : Nat → Int) (I : Nat → St → Prop) (k : Nat),
  ev G0 res7 [] (3000 : Nat)
      (Or.nil.split
        (Or.call [] (AI (leftOf M k fun (i : Nat) => intOf (PI (revF F N i)))) []
          ((Or.call [] (AB true) [] Or.nil.lit).split Or.nil.lit)))
      [Item.ir ir7_L1, Item.lend (I k), Item.bend (0 : Nat), Item.ir ir7_T2] (st_lLOr M N F k) =
    VC.split (decide ((0 : Int) ≤ (↑N : Int) - (1 : Int) - (↑k : Int)))
      (VC.need ((0 : Int) ≤ (↑N : Int) - (1 : Int) - (↑k : Int) ∧ ((↑N : Int) - (1 : Int) - (↑k : Int)).toNat < N)
        (VC.need
          (((k + (1 : Nat)) * (8 : Nat) ≤ (140737488355328 : Nat) ∧
              (↑(k + (1 : Nat)) : Int) ≤ (9223372036854775807 : Int)) ∧
            allV (1 : Nat) (1 : Nat)
              (setG
                [((0 : Nat), (0 : Nat), PV.v (Value.int IntKind.i64 (F ((↑N : Int) - (1 : Int) - (↑k : Int)).toNat)))]
                fun (x j : Nat) => PV.v ([Value.int IntKind.i64 (0 : Int)].getD j undef)))
          (VC.lend (I k)
            {
              env :=
                [((3 : Nat), AV.adr (3 : Nat) (0 : Nat)),
                  ((4 : Nat), AV.p true (PV.v (Value.int IntKind.i64 (leftOf M N F)))), ((5 : Nat), AV.own (34 : Nat)),
                  ((6 : Nat),
                    AV.p true
                      (PV.v
                        (Value.int IntKind.i64 (IntKind.i64.wrap ((↑N : Int) - (1 : Int) - (↑k : Int) - (1 : Int)))))),
                  ((24 : Nat),
                    AV.p true (PV.v (Value.bool (decide ((0 : Int) ≤ (↑N : Int) - (1 : Int) - (↑k : Int))))))],
              H :=
                [((3 : Nat),
                    Ob.box
                      [AV.p true (PV.v (Value.int IntKind.i64 M)),
                        AV.p true (PV.sl false (1 : Nat) N fun (i x : Nat) => PI (F i))]),
                  ((34 : Nat),
                    Ob.row Mode.u true (1 : Nat) (k + (1 : Nat))
                      (fun (a b : Nat) =>
                        if a < k then PI (revF F N a)
                        else
                          setG
                            [((0 : Nat), (0 : Nat),
                                PV.v (Value.int IntKind.i64 (F ((↑N : Int) - (1 : Int) - (↑k : Int)).toNat)))]
                            (fun (x j : Nat) => PV.v ([Value.int IntKind.i64 (0 : Int)].getD j undef)) (a - k) b)
                      [])] })))
      (VC.call (26 : Nat)
        [AV.ag
            [AV.p true (PV.v (Value.int IntKind.i64 M)),
              AV.p false (PV.sl true (1 : Nat) k fun (i x : Nat) => PI (revF F N i))]]
        [] (AI (leftOf M k fun (i : Nat) => intOf (PI (revF F N i)))) []
        (VC.split ((leftOf M k fun (i : Nat) => intOf (PI (revF F N i))) == leftOf M N F)
          (VC.call (17 : Nat) [] [] (AB true) [] (VC.doneP (AV.p true (PV.v (Value.bool true)))))
          (VC.doneP (AV.p true (PV.v (Value.bool false)))))) := by
  intros; kernel_rfl
theorem c_lLOr (nn : Bool) (n : Nat) (f : Nat → Int) (hb : Bytes f) : PRet Tryd.prog G0 7 [.p false (.sl nn 1 n (PB f))] (AB true) := by
  refine PRet.by chk7 (ev_lLOr nn n f) ?_
  simp only [VC.holds_split, VC.holds_need, VC.holds_doneP, VC.holds_done, VC.holds_either, VC.holds_call, VC.holds_callE, VC.holds_lend, VC.holds_stop, VC.holds_fail, decide_eq_true_eq, decide_eq_false_iff_not, intOf_PI]
  refine ⟨fun h => by simp, fun h => ⟨c_dLO nn n f hb, ?_⟩⟩
  rintro ⟨M, N, F⟩ hy
  simp only [] at hy ⊢
  have w0 : IntKind.i64.wrap ((N : Int) - 1) = (N : Int) - 1 := wrap_in (by omega) (by omega)
  simp only [w0]
  refine ⟨c_imLO _ _ _ _ (int_cells _ _) (by omega), c_spLO _ _ _ _ (int_cells _ _) (by omega), fun h1 => by simp at h1, fun h1 => loop_by (st_lLOr M N F) (fun k => k ≤ N) (fun k => N - k) 0 [] [(5, 18)] [] (by omega) ?_ (evr_lLOr M N F) fun k hk => ?_⟩
  · simp [st_lLOr, hbs, St.lowers, St.lower, stLe, leEnv, leObs, obLe, injB, pinC, AV.leC, AV.leCs, PV.leC, PV.Le_v, St.get, St.obj, look, rho, isNew, keptC, renH, Mode.ok, Mode.isZ, PV.isVal, PV.isNilSl, List.all_nil, List.all_cons, List.any_nil, List.any_cons, List.map_nil, List.map_cons]
  · have w1 : IntKind.i64.wrap ((N : Int) - 1 - (k : Int) - 1) = (N : Int) - 1 - ((k + 1 : Nat) : Int) := (wrap_in (by omega) (by omega)).trans (by omega)
    simp only [w1, VC.holds_split, VC.holds_need, VC.holds_doneP, VC.holds_done, VC.holds_either, VC.holds_call, VC.holds_callE, VC.holds_lend, VC.holds_stop, VC.holds_fail, decide_eq_true_eq, decide_eq_false_iff_not, intOf_PI]
    refine ⟨fun h2 => ⟨⟨by omega, by omega⟩, ⟨by omega, fun i j hi hj => ?_⟩, Again.mk (k + 1) [] [(5, 34)] [] (by omega) (by omega) ?_⟩, fun h2 => ?_⟩
    · obtain rfl : i = 0 := by omega
      obtain rfl : j = 0 := by omega
      rfl
    · have e : ((N : Int) - 1 - (k : Int)).toNat = N - 1 - k := by omega
      simp [st_lLOr, hbs, St.lowers, St.lower, stLe, leEnv, leObs, obLe, injB, pinC, AV.leC, AV.leCs, PV.leC, PV.Le_v, St.get, St.obj, look, rho, isNew, keptC, renH, Mode.ok, Mode.isZ, PV.isVal, PV.isNilSl, List.all_nil, List.all_cons, List.any_nil, List.any_cons, List.map_nil, List.map_cons, e]
      intro i hi
      by_cases h4 : i < k
      · simp [h4]; exact .refl _
      · have : i = k := by omega
        subst this
        simp [setG, cellSet, revF]; exact .refl _
    · have hkN : k = N := by omega
      subst hkN
      have e : (leftOf M k fun i => revF F k i) = leftOf M k F := leftOf_rev
      simp only [e]
      refine ⟨?_, fun h3 => ⟨c_alive, by simp⟩, fun h3 => by simp at h3⟩
      have := c_imLO M true k (fun i _ => PI (revF F k i)) (int_cells _ _) (by omega)
      simp only [intOf_PI, e] at this
      exact this
theorem law_FnLedgerOrder (xs : List AV) (h : Args Tryd.prog Tryd.f7.params.toList xs) : PRet Tryd.prog G0 7 xs (AB true) := by
  have hp : Tryd.f7.params.toList = [22] := by kernel_rfl
  rw [hp] at h
  obtain ⟨nn, n, f, c, cs, hb, h2, rfl, hle⟩ := args_bytes h
  cases h2
  exact (c_lLOr nn n f hb).args ⟨hle, trivial⟩
def in_lLO (nn : Bool) (n : Nat) (f : Nat → Int) := (G0, res8, ([] : List (Nat × Ob)), [Item.ir ir8], start [.p false (.sl nn 1 n (PB f))] [])
theorem ev_lLO : ∀ (nn : Bool) (n : Nat) (f : Nat → Int),
  ev G0 res8 [] (3000 : Nat)
      (Or.nil.split
        (Or.callE [] LE1 (fun (y : LE1) => y.snd.fst ≤ (30 : Nat)) (fun (y : LE1) => leR y) (fun (y : LE1) => leH y)
          fun (y : LE1) =>
          Or.call [] (AI (leftOf y.1 y.2.1 fun (i : Nat) => intOf (PI (y.2.2 i)))) []
            (Or.call [] (AI (leftOf y.1 y.2.1 fun (i : Nat) => intOf (PI (y.2.2 i)))) []
              (Or.nil.split
                (((Or.call [] (AB (ledgerValid y.1 y.2.1 fun (i : Nat) => intOf (PI (y.2.2 i)))) []
                            ((Or.call [] (AB true) [] Or.nil.lit).split Or.nil.lit).lit.lit).lit.split
                      Or.nil.lit.lit.lit.lit.lit).split
                  (Or.call []
                    (spendR y.1 y.2.1 (fun (i : Nat) => intOf (PI (y.2.2 i)))
                      (leftOf y.1 y.2.1 fun (i : Nat) => intOf (PI (y.2.2 i))))
                    (spendH y.1 y.2.1 (fun (i : Nat) => intOf (PI (y.2.2 i)))
                      (leftOf y.1 y.2.1 fun (i : Nat) => intOf (PI (y.2.2 i))))
                    ((Or.nil.lit.lit.lit.lit.lit.split
                              (Or.call []
                                  (AI
                                    (leftOf (spendB y.1 y.2.1 fun (i : Nat) => intOf (PI (y.2.2 i)))
                                      (spendN y.1 y.2.1 (fun (i : Nat) => intOf (PI (y.2.2 i)))
                                        (leftOf y.1 y.2.1 fun (i : Nat) => intOf (PI (y.2.2 i))))
                                      fun (i : Nat) =>
                                      intOf
                                        (PI
                                          (snoc (fun (i_1 : Nat) => intOf (PI (y.2.2 i_1))) y.2.1
                                            (leftOf y.1 y.2.1 fun (i_1 : Nat) => intOf (PI (y.2.2 i_1))) i))))
                                  [] Or.nil.lit.lit.lit.lit).lit).lit.lit.split
                      Or.nil.lit.lit.lit.lit)))))))
      [Item.ir ir8] (start [AV.p false (PV.sl nn (1 : Nat) n (PB f))] []) =
    VC.split (decide ((1048576 : Int) < (↑n : Int))) (VC.doneP (AV.p true (PV.v (Value.bool true))))
      (VC.callE LE1 (25 : Nat) [AV.p false (PV.sl nn (1 : Nat) n (PB f))] [] (fun (y : LE1) => y.snd.fst ≤ (30 : Nat))
        (fun (y : LE1) => leR y) (fun (y : LE1) => leH y) fun (y : LE1) =>
        VC.call (26 : Nat)
          [AV.ag
              [AV.p true (PV.v (Value.int IntKind.i64 y.1)),
                AV.p false (PV.sl false (1 : Nat) y.2.1 fun (i x : Nat) => PI (y.2.2 i))]]
          [] (AI (leftOf y.1 y.2.1 fun (i : Nat) => intOf (PI (y.2.2 i)))) []
          (VC.call (27 : Nat)
            [AV.ag
                [AV.p true (PV.v (Value.int IntKind.i64 y.1)),
                  AV.p false (PV.sl false (1 : Nat) y.2.1 fun (i x : Nat) => PI (y.2.2 i))]]
            [] (AI (leftOf y.1 y.2.1 fun (i : Nat) => intOf (PI (y.2.2 i)))) []
            (VC.split
              ((leftOf y.1 y.2.1 fun (i : Nat) => intOf (PI (y.2.2 i))) !=
                leftOf y.1 y.2.1 fun (i : Nat) => intOf (PI (y.2.2 i)))
              (VC.doneP (AV.p true (PV.v (Value.bool false))))
              (VC.split (decide ((leftOf y.1 y.2.1 fun (i : Nat) => intOf (PI (y.2.2 i))) < (0 : Int)))
                (VC.split ((leftOf y.1 y.2.1 fun (i : Nat) => intOf (PI (y.2.2 i))) == (-1 : Int))
                  (VC.call (19 : Nat)
                    [AV.ag
                        [AV.p true (PV.v (Value.int IntKind.i64 y.1)),
                          AV.p false (PV.sl false (1 : Nat) y.2.1 fun (i x : Nat) => PI (y.2.2 i))]]
                    [] (AB (ledgerValid y.1 y.2.1 fun (i : Nat) => intOf (PI (y.2.2 i)))) []
                    (VC.split (!ledgerValid y.1 y.2.1 fun (i : Nat) => intOf (PI (y.2.2 i)))
                      (VC.call (17 : Nat) [] [] (AB true) [] (VC.doneP (AV.p true (PV.v (Value.bool true)))))
                      (VC.doneP (AV.p true (PV.v (Value.bool false))))))
                  (VC.doneP (AV.p true (PV.v (Value.bool false)))))
                (VC.call (28 : Nat)
                  [AV.ag
                      [AV.p true (PV.v (Value.int IntKind.i64 y.1)),
                        AV.p false (PV.sl false (1 : Nat) y.2.1 fun (i x : Nat) => PI (y.2.2 i))],
                    AV.p true (PV.v (Value.int IntKind.i64 (leftOf y.1 y.2.1 fun (i : Nat) => intOf (PI (y.2.2 i)))))]
                  []
                  (spendR y.1 y.2.1 (fun (i : Nat) => intOf (PI (y.2.2 i)))
                    (leftOf y.1 y.2.1 fun (i : Nat) => intOf (PI (y.2.2 i))))
                  (spendH y.1 y.2.1 (fun (i : Nat) => intOf (PI (y.2.2 i)))
                    (leftOf y.1 y.2.1 fun (i : Nat) => intOf (PI (y.2.2 i))))
                  (VC.split (decide ((leftOf y.1 y.2.1 fun (i : Nat) => intOf (PI (y.2.2 i))) ≤ y.1))
                    (VC.split
                      (!spendOk y.1 y.2.1 (fun (i : Nat) => intOf (PI (y.2.2 i)))
                          (leftOf y.1 y.2.1 fun (i : Nat) => intOf (PI (y.2.2 i))))
                      (VC.doneP (AV.p true (PV.v (Value.bool true))))
                      (VC.call (26 : Nat)
                        [AV.ag
                            [AV.p true
                                (PV.v (Value.int IntKind.i64 (spendB y.1 y.2.1 fun (i : Nat) => intOf (PI (y.2.2 i))))),
                              AV.p false
                                (PV.sl false (1 : Nat)
                                  (spendN y.1 y.2.1 (fun (i : Nat) => intOf (PI (y.2.2 i)))
                                    (leftOf y.1 y.2.1 fun (i : Nat) => intOf (PI (y.2.2 i))))
                                  fun (i x : Nat) =>
                                  PI
                                    (snoc (fun (i_1 : Nat) => intOf (PI (y.2.2 i_1))) y.2.1
                                      (leftOf y.1 y.2.1 fun (i_1 : Nat) => intOf (PI (y.2.2 i_1))) i))]]
                        []
                        (AI
                          (leftOf (spendB y.1 y.2.1 fun (i : Nat) => intOf (PI (y.2.2 i)))
                            (spendN y.1 y.2.1 (fun (i : Nat) => intOf (PI (y.2.2 i)))
                              (leftOf y.1 y.2.1 fun (i : Nat) => intOf (PI (y.2.2 i))))
                            fun (i : Nat) =>
                            intOf
                              (PI
                                (snoc (fun (i_1 : Nat) => intOf (PI (y.2.2 i_1))) y.2.1
                                  (leftOf y.1 y.2.1 fun (i_1 : Nat) => intOf (PI (y.2.2 i_1))) i))))
                        []
                        (VC.doneP
                          (AV.p true
                            (PV.v
                              (Value.bool
                                ((leftOf (spendB y.1 y.2.1 fun (i : Nat) => intOf (PI (y.2.2 i)))
                                    (spendN y.1 y.2.1 (fun (i : Nat) => intOf (PI (y.2.2 i)))
                                      (leftOf y.1 y.2.1 fun (i : Nat) => intOf (PI (y.2.2 i))))
                                    fun (i : Nat) =>
                                    intOf
                                      (PI
                                        (snoc (fun (i_1 : Nat) => intOf (PI (y.2.2 i_1))) y.2.1
                                          (leftOf y.1 y.2.1 fun (i_1 : Nat) => intOf (PI (y.2.2 i_1))) i))) ==
                                  (0 : Int))))))))
                    (VC.doneP (AV.p true (PV.v (Value.bool false)))))))))) := by
  intros; kernel_rfl
theorem c_lLO (nn : Bool) (n : Nat) (f : Nat → Int) (hb : Bytes f) : PRet Tryd.prog G0 8 [.p false (.sl nn 1 n (PB f))] (AB true) := by
  refine PRet.by chk8 (ev_lLO nn n f) ?_
  simp only [VC.holds_split, VC.holds_need, VC.holds_doneP, VC.holds_done, VC.holds_either, VC.holds_call, VC.holds_callE, VC.holds_lend, VC.holds_stop, VC.holds_fail, decide_eq_true_eq, decide_eq_false_iff_not]
  simp only [intOf_fun]
  refine ⟨fun h => by simp, fun h => ⟨c_dLO nn n f hb, ?_⟩⟩
  rintro ⟨M, N, F⟩ hy
  simp only [] at hy ⊢
  have hi := int_cells F N
  have hN := spendN_le M N F (leftOf M N F)
  refine ⟨c_imLO _ _ _ _ hi (by omega), c_spLO _ _ _ _ hi (by omega), fun h1 => by simp at h1, fun h1 => ⟨fun h2 => ⟨fun h3 => ⟨c_imLV _ _ _ _ hi (by omega), fun h4 => ⟨c_alive, by simp⟩, fun h4 => ?_⟩, fun h3 => ?_⟩, fun h2 => ⟨c_imSC _ _ _ _ _ hi (by omega), fun h3 => ⟨fun h4 => by simp, fun h4 => ⟨c_imLO _ _ _ _ (int_cells _ _) (by omega), ?_⟩⟩, fun h3 => ?_⟩⟩⟩
  · simp [(leftOf_neg h2).2] at h4
  · simp [(leftOf_neg h2).1] at h3
  · obtain ⟨e1, e2, e3, e4⟩ := spend_yes (by simpa using h4)
    obtain ⟨_, e5, _⟩ := leftOf_pos h2
    have e6 : leftOf M (N + 1) (snoc F N (leftOf M N F)) = 0 := by
      have := sumF_snoc (F := F) (n := N) (c := leftOf M N F)
      have e7 : leftOf M (N + 1) (snoc F N (leftOf M N F)) = M - sumF (snoc F N (leftOf M N F)) (N + 1) := by rw [leftOf, if_pos e4]
      omega
    simp only [e1, e2]
    rw [e6]
    simp
  · exact absurd (leftOf_pos h2).2.2 h3
theorem law_FnLeftOf (xs : List AV) (h : Args Tryd.prog Tryd.f8.params.toList xs) : PRet Tryd.prog G0 8 xs (AB true) := by
  have hp : Tryd.f8.params.toList = [22] := by kernel_rfl
  rw [hp] at h
  obtain ⟨nn, n, f, c, cs, hb, h2, rfl, hle⟩ := args_bytes h
  cases h2
  exact (c_lLO nn n f hb).args ⟨hle, trivial⟩
def in_lSC (nn : Bool) (n : Nat) (f : Nat → Int) := (G0, res9, ([] : List (Nat × Ob)), [Item.ir ir9], start [.p false (.sl nn 1 n (PB f))] [])
theorem ev_lSC : ∀ (nn : Bool) (n : Nat) (f : Nat → Int),
  ev G0 res9 [] (3000 : Nat)
      (Or.nil.split
        (Or.callE [] LE2 (fun (y : LE2) => y.fst.snd.fst ≤ (30 : Nat)) (fun (y : LE2) => le2R y)
          (fun (y : LE2) => leH y.fst) fun (y : LE2) =>
          Or.call [] (spendR y.1.1 y.1.2.1 (fun (i : Nat) => intOf (PI (y.1.2.2 i))) y.2)
            (spendH y.1.1 y.1.2.1 (fun (i : Nat) => intOf (PI (y.1.2.2 i))) y.2)
            (Or.call [] (spendR y.1.1 y.1.2.1 (fun (i : Nat) => intOf (PI (y.1.2.2 i))) y.2)
              (spendH y.1.1 y.1.2.1 (fun (i : Nat) => intOf (PI (y.1.2.2 i))) y.2)
              (Or.nil.lit.lit.lit.lit.lit.lit.lit.lit.lit.lit.lit.split
                (Or.call []
                          (AB
                            (sameI (spendN y.1.1 y.1.2.1 (fun (i : Nat) => intOf (PI (y.1.2.2 i))) y.2)
                              (fun (i : Nat) =>
                                intOf (PI (snoc (fun (i_1 : Nat) => intOf (PI (y.1.2.2 i_1))) y.1.2.1 y.2 i)))
                              (spendN y.1.1 y.1.2.1 (fun (i : Nat) => intOf (PI (y.1.2.2 i))) y.2) fun (i : Nat) =>
                              intOf (PI (snoc (fun (i_1 : Nat) => intOf (PI (y.1.2.2 i_1))) y.1.2.1 y.2 i))))
                          []
                          (Or.nil.lit.lit.lit.lit.split
                                (Or.nil.split
                                        ((Or.call []
                                              (AB
                                                (sameI
                                                  (spendN y.1.1 y.1.2.1 (fun (i : Nat) => intOf (PI (y.1.2.2 i))) y.2)
                                                  (fun (i : Nat) =>
                                                    intOf
                                                      (PI
                                                        (snoc (fun (i_1 : Nat) => intOf (PI (y.1.2.2 i_1))) y.1.2.1 y.2
                                                          i)))
                                                  y.1.2.1 fun (i : Nat) => intOf (PI (y.1.2.2 i))))
                                              []
                                              ((Or.call [] (AB true) [] Or.nil.lit).lit.lit.lit.lit.lit.split
                                                ((Or.call [] (AB true) [] Or.nil.lit).split
                                                          Or.nil.lit).lit.lit.lit.lit)).split
                                          (Or.call []
                                            (AI
                                              (leftOf (spendB y.1.1 y.1.2.1 fun (i : Nat) => intOf (PI (y.1.2.2 i)))
                                                (spendN y.1.1 y.1.2.1 (fun (i : Nat) => intOf (PI (y.1.2.2 i))) y.2)
                                                fun (i : Nat) =>
                                                intOf
                                                  (PI
                                                    (snoc (fun (i_1 : Nat) => intOf (PI (y.1.2.2 i_1))) y.1.2.1 y.2
                                                      i))))
                                            []
                                            (Or.call []
                                              (spendR (spendB y.1.1 y.1.2.1 fun (i : Nat) => intOf (PI (y.1.2.2 i)))
                                                (spendN y.1.1 y.1.2.1 (fun (i : Nat) => intOf (PI (y.1.2.2 i))) y.2)
                                                (fun (i : Nat) =>
                                                  intOf
                                                    (PI
                                                      (snoc (fun (i_1 : Nat) => intOf (PI (y.1.2.2 i_1))) y.1.2.1 y.2
                                                        i)))
                                                (IntKind.i64.wrap
                                                  ((leftOf
                                                      (spendB y.1.1 y.1.2.1 fun (i : Nat) => intOf (PI (y.1.2.2 i)))
                                                      (spendN y.1.1 y.1.2.1 (fun (i : Nat) => intOf (PI (y.1.2.2 i)))
                                                        y.2)
                                                      fun (i : Nat) =>
                                                      intOf
                                                        (PI
                                                          (snoc (fun (i_1 : Nat) => intOf (PI (y.1.2.2 i_1))) y.1.2.1
                                                            y.2 i))) +
                                                    (1 : Int))))
                                              (spendH (spendB y.1.1 y.1.2.1 fun (i : Nat) => intOf (PI (y.1.2.2 i)))
                                                (spendN y.1.1 y.1.2.1 (fun (i : Nat) => intOf (PI (y.1.2.2 i))) y.2)
                                                (fun (i : Nat) =>
                                                  intOf
                                                    (PI
                                                      (snoc (fun (i_1 : Nat) => intOf (PI (y.1.2.2 i_1))) y.1.2.1 y.2
                                                        i)))
                                                (IntKind.i64.wrap
                                                  ((leftOf
                                                      (spendB y.1.1 y.1.2.1 fun (i : Nat) => intOf (PI (y.1.2.2 i)))
                                                      (spendN y.1.1 y.1.2.1 (fun (i : Nat) => intOf (PI (y.1.2.2 i)))
                                                        y.2)
                                                      fun (i : Nat) =>
                                                      intOf
                                                        (PI
                                                          (snoc (fun (i_1 : Nat) => intOf (PI (y.1.2.2 i_1))) y.1.2.1
                                                            y.2 i))) +
                                                    (1 : Int))))
                                              (Or.call []
                                                (AB
                                                  (ledgerValid
                                                    (spendB y.1.1 y.1.2.1 fun (i : Nat) => intOf (PI (y.1.2.2 i)))
                                                    (spendN y.1.1 y.1.2.1 (fun (i : Nat) => intOf (PI (y.1.2.2 i))) y.2)
                                                    fun (i : Nat) =>
                                                    intOf
                                                      (PI
                                                        (snoc (fun (i_1 : Nat) => intOf (PI (y.1.2.2 i_1))) y.1.2.1 y.2
                                                          i))))
                                                []
                                                ((Or.call []
                                                        (AI
                                                          (leftOf
                                                            (spendB y.1.1 y.1.2.1 fun (i : Nat) =>
                                                              intOf (PI (y.1.2.2 i)))
                                                            (spendN y.1.1 y.1.2.1
                                                              (fun (i : Nat) => intOf (PI (y.1.2.2 i))) y.2)
                                                            fun (i : Nat) =>
                                                            intOf
                                                              (PI
                                                                (snoc (fun (i_1 : Nat) => intOf (PI (y.1.2.2 i_1)))
                                                                  y.1.2.1 y.2 i))))
                                                        []
                                                        (Or.call []
                                                              (AI
                                                                (leftOf y.1.1 y.1.2.1 fun (i : Nat) =>
                                                                  intOf (PI (y.1.2.2 i))))
                                                              []
                                                              (Or.nil.lit.lit.split
                                                                        Or.nil.lit.lit).lit.lit.lit.lit).lit.lit).lit.split
                                                  Or.nil.lit.lit.lit.lit.lit.lit.lit.lit.lit.lit)))))).lit.lit.lit).lit.lit).lit.lit.lit.lit))))
      [Item.ir ir9] (start [AV.p false (PV.sl nn (1 : Nat) n (PB f))] []) =
    VC.split (decide ((1048576 : Int) < (↑n : Int))) (VC.doneP (AV.p true (PV.v (Value.bool true))))
      (VC.callE LE2 (29 : Nat) [AV.p false (PV.sl nn (1 : Nat) n (PB f))] []
        (fun (y : LE2) => y.fst.snd.fst ≤ (30 : Nat)) (fun (y : LE2) => le2R y) (fun (y : LE2) => leH y.fst)
        fun (y : LE2) =>
        VC.call (28 : Nat)
          [AV.ag
              [AV.p true (PV.v (Value.int IntKind.i64 y.1.1)),
                AV.p false (PV.sl false (1 : Nat) y.1.2.1 fun (i x : Nat) => PI (y.1.2.2 i))],
            AV.p true (PV.v (Value.int IntKind.i64 y.2))]
          [] (spendR y.1.1 y.1.2.1 (fun (i : Nat) => intOf (PI (y.1.2.2 i))) y.2)
          (spendH y.1.1 y.1.2.1 (fun (i : Nat) => intOf (PI (y.1.2.2 i))) y.2)
          (VC.call (30 : Nat)
            [AV.ag
                [AV.p true (PV.v (Value.int IntKind.i64 y.1.1)),
                  AV.p false (PV.sl false (1 : Nat) y.1.2.1 fun (i x : Nat) => PI (y.1.2.2 i))],
              AV.p true (PV.v (Value.int IntKind.i64 y.2))]
            [] (spendR y.1.1 y.1.2.1 (fun (i : Nat) => intOf (PI (y.1.2.2 i))) y.2)
            (spendH y.1.1 y.1.2.1 (fun (i : Nat) => intOf (PI (y.1.2.2 i))) y.2)
            (VC.split
              ((spendB y.1.1 y.1.2.1 fun (i : Nat) => intOf (PI (y.1.2.2 i))) !=
                spendB y.1.1 y.1.2.1 fun (i : Nat) => intOf (PI (y.1.2.2 i)))
              (VC.doneP (AV.p true (PV.v (Value.bool false))))
              (VC.call (31 : Nat)
                [AV.p false
                    (PV.sl false (1 : Nat) (spendN y.1.1 y.1.2.1 (fun (i : Nat) => intOf (PI (y.1.2.2 i))) y.2)
                      fun (i x : Nat) => PI (snoc (fun (i_1 : Nat) => intOf (PI (y.1.2.2 i_1))) y.1.2.1 y.2 i)),
                  AV.p false
                    (PV.sl false (1 : Nat) (spendN y.1.1 y.1.2.1 (fun (i : Nat) => intOf (PI (y.1.2.2 i))) y.2)
                      fun (i x : Nat) => PI (snoc (fun (i_1 : Nat) => intOf (PI (y.1.2.2 i_1))) y.1.2.1 y.2 i))]
                []
                (AB
                  (sameI (spendN y.1.1 y.1.2.1 (fun (i : Nat) => intOf (PI (y.1.2.2 i))) y.2)
                    (fun (i : Nat) => intOf (PI (snoc (fun (i_1 : Nat) => intOf (PI (y.1.2.2 i_1))) y.1.2.1 y.2 i)))
                    (spendN y.1.1 y.1.2.1 (fun (i : Nat) => intOf (PI (y.1.2.2 i))) y.2) fun (i : Nat) =>
                    intOf (PI (snoc (fun (i_1 : Nat) => intOf (PI (y.1.2.2 i_1))) y.1.2.1 y.2 i))))
                []
                (VC.split
                  (!sameI (spendN y.1.1 y.1.2.1 (fun (i : Nat) => intOf (PI (y.1.2.2 i))) y.2)
                      (fun (i : Nat) => intOf (PI (snoc (fun (i_1 : Nat) => intOf (PI (y.1.2.2 i_1))) y.1.2.1 y.2 i)))
                      (spendN y.1.1 y.1.2.1 (fun (i : Nat) => intOf (PI (y.1.2.2 i))) y.2) fun (i : Nat) =>
                      intOf (PI (snoc (fun (i_1 : Nat) => intOf (PI (y.1.2.2 i_1))) y.1.2.1 y.2 i)))
                  (VC.doneP (AV.p true (PV.v (Value.bool false))))
                  (VC.split
                    (!spendOk y.1.1 y.1.2.1 (fun (i : Nat) => intOf (PI (y.1.2.2 i))) y.2 ==
                        spendOk y.1.1 y.1.2.1 (fun (i : Nat) => intOf (PI (y.1.2.2 i))) y.2)
                    (VC.doneP (AV.p true (PV.v (Value.bool false))))
                    (VC.split (!spendOk y.1.1 y.1.2.1 (fun (i : Nat) => intOf (PI (y.1.2.2 i))) y.2)
                      (VC.call (31 : Nat)
                        [AV.p false
                            (PV.sl false (1 : Nat) (spendN y.1.1 y.1.2.1 (fun (i : Nat) => intOf (PI (y.1.2.2 i))) y.2)
                              fun (i x : Nat) => PI (snoc (fun (i_1 : Nat) => intOf (PI (y.1.2.2 i_1))) y.1.2.1 y.2 i)),
                          AV.p false (PV.sl false (1 : Nat) y.1.2.1 fun (i x : Nat) => PI (y.1.2.2 i))]
                        []
                        (AB
                          (sameI (spendN y.1.1 y.1.2.1 (fun (i : Nat) => intOf (PI (y.1.2.2 i))) y.2)
                            (fun (i : Nat) =>
                              intOf (PI (snoc (fun (i_1 : Nat) => intOf (PI (y.1.2.2 i_1))) y.1.2.1 y.2 i)))
                            y.1.2.1 fun (i : Nat) => intOf (PI (y.1.2.2 i))))
                        []
                        (VC.split
                          (sameI (spendN y.1.1 y.1.2.1 (fun (i : Nat) => intOf (PI (y.1.2.2 i))) y.2)
                            (fun (i : Nat) =>
                              intOf (PI (snoc (fun (i_1 : Nat) => intOf (PI (y.1.2.2 i_1))) y.1.2.1 y.2 i)))
                            y.1.2.1 fun (i : Nat) => intOf (PI (y.1.2.2 i)))
                          (VC.call (17 : Nat) [] [] (AB true) [] (VC.doneP (AV.p true (PV.v (Value.bool true)))))
                          (VC.split
                            ((↑(spendN y.1.1 y.1.2.1 (fun (i : Nat) => intOf (PI (y.1.2.2 i))) y.2) : Int) == (0 : Int))
                            (VC.call (17 : Nat) [] [] (AB true) [] (VC.doneP (AV.p true (PV.v (Value.bool true)))))
                            (VC.doneP (AV.p true (PV.v (Value.bool false)))))))
                      (VC.call (26 : Nat)
                        [AV.ag
                            [AV.p true
                                (PV.v
                                  (Value.int IntKind.i64
                                    (spendB y.1.1 y.1.2.1 fun (i : Nat) => intOf (PI (y.1.2.2 i))))),
                              AV.p false
                                (PV.sl false (1 : Nat)
                                  (spendN y.1.1 y.1.2.1 (fun (i : Nat) => intOf (PI (y.1.2.2 i))) y.2)
                                  fun (i x : Nat) =>
                                  PI (snoc (fun (i_1 : Nat) => intOf (PI (y.1.2.2 i_1))) y.1.2.1 y.2 i))]]
                        []
                        (AI
                          (leftOf (spendB y.1.1 y.1.2.1 fun (i : Nat) => intOf (PI (y.1.2.2 i)))
                            (spendN y.1.1 y.1.2.1 (fun (i : Nat) => intOf (PI (y.1.2.2 i))) y.2) fun (i : Nat) =>
                            intOf (PI (snoc (fun (i_1 : Nat) => intOf (PI (y.1.2.2 i_1))) y.1.2.1 y.2 i))))
                        []
                        (VC.call (28 : Nat)
                          [AV.ag
                              [AV.p true
                                  (PV.v
                                    (Value.int IntKind.i64
                                      (spendB y.1.1 y.1.2.1 fun (i : Nat) => intOf (PI (y.1.2.2 i))))),
                                AV.p false
                                  (PV.sl false (1 : Nat)
                                    (spendN y.1.1 y.1.2.1 (fun (i : Nat) => intOf (PI (y.1.2.2 i))) y.2)
                                    fun (i x : Nat) =>
                                    PI (snoc (fun (i_1 : Nat) => intOf (PI (y.1.2.2 i_1))) y.1.2.1 y.2 i))],
                            AV.p true
                              (PV.v
                                (Value.int IntKind.i64
                                  (IntKind.i64.wrap
                                    ((leftOf (spendB y.1.1 y.1.2.1 fun (i : Nat) => intOf (PI (y.1.2.2 i)))
                                        (spendN y.1.1 y.1.2.1 (fun (i : Nat) => intOf (PI (y.1.2.2 i))) y.2)
                                        fun (i : Nat) =>
                                        intOf (PI (snoc (fun (i_1 : Nat) => intOf (PI (y.1.2.2 i_1))) y.1.2.1 y.2 i))) +
                                      (1 : Int)))))]
                          []
                          (spendR (spendB y.1.1 y.1.2.1 fun (i : Nat) => intOf (PI (y.1.2.2 i)))
                            (spendN y.1.1 y.1.2.1 (fun (i : Nat) => intOf (PI (y.1.2.2 i))) y.2)
                            (fun (i : Nat) =>
                              intOf (PI (snoc (fun (i_1 : Nat) => intOf (PI (y.1.2.2 i_1))) y.1.2.1 y.2 i)))
                            (IntKind.i64.wrap
                              ((leftOf (spendB y.1.1 y.1.2.1 fun (i : Nat) => intOf (PI (y.1.2.2 i)))
                                  (spendN y.1.1 y.1.2.1 (fun (i : Nat) => intOf (PI (y.1.2.2 i))) y.2) fun (i : Nat) =>
                                  intOf (PI (snoc (fun (i_1 : Nat) => intOf (PI (y.1.2.2 i_1))) y.1.2.1 y.2 i))) +
                                (1 : Int))))
                          (spendH (spendB y.1.1 y.1.2.1 fun (i : Nat) => intOf (PI (y.1.2.2 i)))
                            (spendN y.1.1 y.1.2.1 (fun (i : Nat) => intOf (PI (y.1.2.2 i))) y.2)
                            (fun (i : Nat) =>
                              intOf (PI (snoc (fun (i_1 : Nat) => intOf (PI (y.1.2.2 i_1))) y.1.2.1 y.2 i)))
                            (IntKind.i64.wrap
                              ((leftOf (spendB y.1.1 y.1.2.1 fun (i : Nat) => intOf (PI (y.1.2.2 i)))
                                  (spendN y.1.1 y.1.2.1 (fun (i : Nat) => intOf (PI (y.1.2.2 i))) y.2) fun (i : Nat) =>
                                  intOf (PI (snoc (fun (i_1 : Nat) => intOf (PI (y.1.2.2 i_1))) y.1.2.1 y.2 i))) +
                                (1 : Int))))
                          (VC.call (19 : Nat)
                            [AV.ag
                                [AV.p true
                                    (PV.v
                                      (Value.int IntKind.i64
                                        (spendB y.1.1 y.1.2.1 fun (i : Nat) => intOf (PI (y.1.2.2 i))))),
                                  AV.p false
                                    (PV.sl false (1 : Nat)
                                      (spendN y.1.1 y.1.2.1 (fun (i : Nat) => intOf (PI (y.1.2.2 i))) y.2)
                                      fun (i x : Nat) =>
                                      PI (snoc (fun (i_1 : Nat) => intOf (PI (y.1.2.2 i_1))) y.1.2.1 y.2 i))]]
                            []
                            (AB
                              (ledgerValid (spendB y.1.1 y.1.2.1 fun (i : Nat) => intOf (PI (y.1.2.2 i)))
                                (spendN y.1.1 y.1.2.1 (fun (i : Nat) => intOf (PI (y.1.2.2 i))) y.2) fun (i : Nat) =>
                                intOf (PI (snoc (fun (i_1 : Nat) => intOf (PI (y.1.2.2 i_1))) y.1.2.1 y.2 i))))
                            []
                            (VC.split
                              (ledgerValid (spendB y.1.1 y.1.2.1 fun (i : Nat) => intOf (PI (y.1.2.2 i)))
                                (spendN y.1.1 y.1.2.1 (fun (i : Nat) => intOf (PI (y.1.2.2 i))) y.2) fun (i : Nat) =>
                                intOf (PI (snoc (fun (i_1 : Nat) => intOf (PI (y.1.2.2 i_1))) y.1.2.1 y.2 i)))
                              (VC.call (26 : Nat)
                                [AV.ag
                                    [AV.p true
                                        (PV.v
                                          (Value.int IntKind.i64
                                            (spendB y.1.1 y.1.2.1 fun (i : Nat) => intOf (PI (y.1.2.2 i))))),
                                      AV.p false
                                        (PV.sl false (1 : Nat)
                                          (spendN y.1.1 y.1.2.1 (fun (i : Nat) => intOf (PI (y.1.2.2 i))) y.2)
                                          fun (i x : Nat) =>
                                          PI (snoc (fun (i_1 : Nat) => intOf (PI (y.1.2.2 i_1))) y.1.2.1 y.2 i))]]
                                []
                                (AI
                                  (leftOf (spendB y.1.1 y.1.2.1 fun (i : Nat) => intOf (PI (y.1.2.2 i)))
                                    (spendN y.1.1 y.1.2.1 (fun (i : Nat) => intOf (PI (y.1.2.2 i))) y.2)
                                    fun (i : Nat) =>
                                    intOf (PI (snoc (fun (i_1 : Nat) => intOf (PI (y.1.2.2 i_1))) y.1.2.1 y.2 i))))
                                []
                                (VC.call (26 : Nat)
                                  [AV.ag
                                      [AV.p true (PV.v (Value.int IntKind.i64 y.1.1)),
                                        AV.p false (PV.sl false (1 : Nat) y.1.2.1 fun (i x : Nat) => PI (y.1.2.2 i))]]
                                  [] (AI (leftOf y.1.1 y.1.2.1 fun (i : Nat) => intOf (PI (y.1.2.2 i)))) []
                                  (VC.split
                                    ((leftOf (spendB y.1.1 y.1.2.1 fun (i : Nat) => intOf (PI (y.1.2.2 i)))
                                        (spendN y.1.1 y.1.2.1 (fun (i : Nat) => intOf (PI (y.1.2.2 i))) y.2)
                                        fun (i : Nat) =>
                                        intOf
                                          (PI (snoc (fun (i_1 : Nat) => intOf (PI (y.1.2.2 i_1))) y.1.2.1 y.2 i))) ==
                                      IntKind.i64.wrap
                                        ((leftOf y.1.1 y.1.2.1 fun (i : Nat) => intOf (PI (y.1.2.2 i))) - y.2))
                                    (VC.doneP
                                      (AV.p true
                                        (PV.v
                                          (Value.bool
                                            !spendOk (spendB y.1.1 y.1.2.1 fun (i : Nat) => intOf (PI (y.1.2.2 i)))
                                                (spendN y.1.1 y.1.2.1 (fun (i : Nat) => intOf (PI (y.1.2.2 i))) y.2)
                                                (fun (i : Nat) =>
                                                  intOf
                                                    (PI
                                                      (snoc (fun (i_1 : Nat) => intOf (PI (y.1.2.2 i_1))) y.1.2.1 y.2
                                                        i)))
                                                (IntKind.i64.wrap
                                                  ((leftOf
                                                      (spendB y.1.1 y.1.2.1 fun (i : Nat) => intOf (PI (y.1.2.2 i)))
                                                      (spendN y.1.1 y.1.2.1 (fun (i : Nat) => intOf (PI (y.1.2.2 i)))
                                                        y.2)
                                                      fun (i : Nat) =>
                                                      intOf
                                                        (PI
                                                          (snoc (fun (i_1 : Nat) => intOf (PI (y.1.2.2 i_1))) y.1.2.1
                                                            y.2 i))) +
                                                    (1 : Int)))))))
                                    (VC.doneP (AV.p true (PV.v (Value.bool false)))))))
                              (VC.doneP (AV.p true (PV.v (Value.bool false))))))))))))))) := by
  intros; kernel_rfl
theorem c_lSC (nn : Bool) (n : Nat) (f : Nat → Int) (hb : Bytes f) : PRet Tryd.prog G0 9 [.p false (.sl nn 1 n (PB f))] (AB true) := by
  refine PRet.by chk9 (ev_lSC nn n f) ?_
  simp only [VC.holds_split, VC.holds_need, VC.holds_doneP, VC.holds_done, VC.holds_either, VC.holds_call, VC.holds_callE, VC.holds_lend, VC.holds_stop, VC.holds_fail, decide_eq_true_eq, decide_eq_false_iff_not]
  simp only [intOf_fun]
  refine ⟨fun h => by simp, fun h => ⟨c_dSC nn n f hb, ?_⟩⟩
  rintro ⟨⟨M, N, F⟩, c⟩ hy
  simp only [] at hy ⊢
  have hi := int_cells F N
  have hN := spendN_le M N F c
  have hs := int_cells (snoc F N c) (spendN M N F c)
  refine ⟨c_imSC _ _ _ _ _ hi (by omega), c_spSC _ _ _ _ _ hi (by omega), fun h1 => by simp at h1, fun h1 => ⟨c_same _ _ _ _ _ _ hs hs (by omega), fun h2 => ?_, fun h2 => ⟨fun h3 => by simp at h3, fun h3 => ⟨fun h4 => ⟨c_same _ _ _ _ _ _ hs hi (by omega), fun h5 => ⟨c_alive, by simp⟩, fun h5 => ⟨fun h6 => ⟨c_alive, by simp⟩, fun h6 => ?_⟩⟩, fun h4 => ?_⟩⟩⟩⟩
  · rw [sameI_rfl (fun i hi => rfl)] at h2; simp at h2
  · exfalso
    rcases spend_no (by simpa using h4) with ⟨e1, e2⟩ | e1
    · rw [e1, sameI_rfl (fun i hi => by simp [snoc, hi])] at h5; cases h5
    · rw [e1] at h6; simp at h6
  · obtain ⟨e1, e2, e3, e4⟩ := spend_yes (by simpa using h4)
    simp only [e1, e2]
    have hs := int_cells (snoc F N c) (N + 1)
    have hle := (lv_all e4).2.1
    obtain ⟨hM, _, _, hsum⟩ := lv_all e4
    have e5 : leftOf M (N + 1) (snoc F N c) = M - sumF (snoc F N c) (N + 1) := by rw [leftOf, if_pos e4]
    have e6 : leftOf M N F = M - sumF F N := by rw [leftOf, if_pos e3]
    have e7 := sumF_snoc (F := F) (n := N) (c := c)
    have h0 := sumF_nonneg (F := snoc F N c) (k := N + 1) fun i hi => ((lv_all e4).2.2.1 i hi).1
    have hc := (lv_all e4).2.2.1 N (by omega)
    have hc2 : snoc F N c N = c := by simp [snoc]
    have w1 : IntKind.i64.wrap (leftOf M (N + 1) (snoc F N c) + 1) = leftOf M (N + 1) (snoc F N c) + 1 := wrap_in (by omega) (by omega)
    have h0' := sumF_nonneg (F := F) (k := N) fun i hi => ((lv_all e3).2.2.1 i hi).1
    have w2 : IntKind.i64.wrap (leftOf M N F - c) = leftOf M N F - c := wrap_in (by omega) (by omega)
    have no : spendOk M (N + 1) (snoc F N c) (leftOf M (N + 1) (snoc F N c) + 1) = false := by
      cases hx : spendOk M (N + 1) (snoc F N c) (leftOf M (N + 1) (snoc F N c) + 1) with
      | false => rfl
      | true =>
        have e8 := (lv_all (spend_yes hx).2.2.2).2.2.2
        have e9 := sumF_snoc (F := snoc F N c) (n := N + 1) (c := leftOf M (N + 1) (snoc F N c) + 1)
        omega
    simp only [w1, w2, no]
    refine ⟨c_imLO _ _ _ _ hs (by omega), c_imSC _ _ _ _ _ hs (by omega), c_imLV _ _ _ _ hs (by omega), fun h5 => ⟨c_imLO _ _ _ _ hs (by omega), c_imLO _ _ _ _ (int_cells _ _) (by omega), fun h6 => by simp, fun h6 => ?_⟩, fun h5 => ?_⟩
    · exfalso
      have : leftOf M (N + 1) (snoc F N c) = leftOf M N F - c := by omega
      simp [this] at h6
    · rw [e4] at h5; cases h5
theorem law_FnSpendCost (xs : List AV) (h : Args Tryd.prog Tryd.f9.params.toList xs) : PRet Tryd.prog G0 9 xs (AB true) := by
  have hp : Tryd.f9.params.toList = [22] := by kernel_rfl
  rw [hp] at h
  obtain ⟨nn, n, f, c, cs, hb, h2, rfl, hle⟩ := args_bytes h
  cases h2
  exact (c_lSC nn n f hb).args ⟨hle, trivial⟩
end Go.Gw
