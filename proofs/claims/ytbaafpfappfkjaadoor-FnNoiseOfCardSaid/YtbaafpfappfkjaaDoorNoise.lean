/- Streams of numbers, and noise; with no condition. -/
import Derived.Test.YtbaafpfappfkjaaDoorDraw
import Derived.KernelRfl
namespace Go.Gw
open Go Go.Proofs
set_option linter.unusedSimpArgs false
set_option linter.unusedVariables false
set_option maxRecDepth 100000
def ir53_L1 : Ir :=
  (.seq
  (.reg [] [o 20 (.bin .lss (tt 19) (ci 3))])
  (.seq
  (.cond (tt 20)
   .skip
   (.exit 0))
  (.seq
  (.block 1
   (.seq
   (.reg [21] [o 21 (.mov (tt 19)),
     o 8 (.mov (tt 21))])
   (.reg [22, 23, 24, 25, 26, 27, 28, 29, 30] [o 22 (.mov (tt 7)),
     o 23 (.bin .mul (ci 48271) (tt 22)),
     o 24 (.mov (tt 0)),
     o 25 (.bin .add (tt 23) (tt 24)),
     o 26 (.mov (tt 1)),
     o 27 (.bin .add (tt 25) (tt 26)),
     o 28 (.mov (tt 8)),
     o 29 (.bin .add (tt 27) (tt 28)),
     o 30 (.bin .rem (tt 29) (ci 2147483647)),
     o 7 (.mov (tt 30))])))
  (.reg [31] [o 31 (.bin .add (tt 19) (ci 1)),
    o 19 (.mov (tt 31))]))))
def ir53_T2 : Ir :=
  (.seq
  (.reg [32, 33] [o 32 (.mov (tt 7)),
    o 33 (.bin .rem (tt 32) (ci 200003)),
    o 6 (.mov (tt 33))])
  .ret)
def ir53 : Ir :=
  (.seq
  (.reg [] [o 6 (.mov (ci 0))])
  (.seq
  (.reg [9, 10, 11, 12, 13, 14, 15, 16, 17, 18] [o 9 (.mov (tt 0)),
    o 10 (.bin .mul (ci 7) (tt 9)),
    o 11 (.mov (tt 1)),
    o 12 (.bin .mul (ci 13) (tt 11)),
    o 13 (.bin .add (tt 10) (tt 12)),
    o 14 (.mov (tt 2)),
    o 15 (.bin .mul (ci 29) (tt 14)),
    o 16 (.bin .add (tt 13) (tt 15)),
    o 17 (.bin .add (tt 16) (ci 11)),
    o 18 (.bin .rem (tt 17) (ci 2147483647)),
    o 7 (.mov (tt 18))])
  (.seq
  (.seq
  (.reg [] [o 19 (.mov (ci 0))])
  (.block 0
   (.loop ir53_L1)))
  ir53_T2)))
def keep53 : List Nat := [0, 1, 2, 6, 7, 8, 19, 20]
def res53 : List RI := [.tmp 6]
theorem chk53 : chk Tryd.prog 53 3 keep53 = some (ir53, res53) := by kernel_rfl
def ir63_L1 : Ir :=
  (.seq
  (.seq
  (.reg [19] [o 19 (.mov (tt 8)),
    o 20 (.bin .lss (tt 19) (ci 3))])
  (.cond (tt 20)
   .skip
   (.exit 0)))
  (.seq
  (.block 1
   (.reg [23, 24, 25, 26, 27, 28, 29, 30, 31] [o 23 (.mov (tt 7)),
     o 24 (.bin .mul (tt 23) (ci 48271)),
     o 25 (.mov (tt 0)),
     o 26 (.bin .add (tt 24) (tt 25)),
     o 27 (.mov (tt 1)),
     o 28 (.bin .add (tt 26) (tt 27)),
     o 29 (.mov (tt 8)),
     o 30 (.bin .add (tt 28) (tt 29)),
     o 31 (.bin .rem (tt 30) (ci 2147483647)),
     o 7 (.mov (tt 31))]))
  (.reg [21, 22] [o 21 (.mov (tt 8)),
    o 22 (.bin .add (tt 21) (ci 1)),
    o 8 (.mov (tt 22))])))
def ir63_T2 : Ir :=
  (.seq
  (.reg [32] [o 32 (.mov (tt 7)),
    o 6 (.mov (tt 32))])
  .ret)
def ir63 : Ir :=
  (.seq
  (.reg [] [o 6 (.mov (ci 0))])
  (.seq
  (.reg [9, 10, 11, 12, 13, 14, 15, 16, 17, 18] [o 9 (.mov (tt 0)),
    o 10 (.bin .mul (tt 9) (ci 7)),
    o 11 (.mov (tt 1)),
    o 12 (.bin .mul (tt 11) (ci 13)),
    o 13 (.bin .add (tt 10) (tt 12)),
    o 14 (.mov (tt 2)),
    o 15 (.bin .mul (tt 14) (ci 29)),
    o 16 (.bin .add (tt 13) (tt 15)),
    o 17 (.bin .add (tt 16) (ci 11)),
    o 18 (.bin .rem (tt 17) (ci 2147483647)),
    o 7 (.mov (tt 18))])
  (.seq
  (.seq
  (.reg [] [o 8 (.mov (ci 0))])
  (.block 0
   (.loop ir63_L1)))
  ir63_T2)))
def keep63 : List Nat := [0, 1, 2, 6, 7, 8, 20]
def res63 : List RI := [.tmp 6]
theorem chk63 : chk Tryd.prog 63 3 keep63 = some (ir63, res63) := by kernel_rfl
def ir51 : Ir :=
  (.seq
  (.reg [] [o 2 (.mov (cb false))])
  (.seq
  (.reg [3, 4] [o 3 (.mov (tt 0)),
    o 4 (.call 47 [(tt 3), (ci 0), (ci 1000000)]),
    o 2 (.mov (tt 4))])
  .ret))
def keep51 : List Nat := [0, 2]
def res51 : List RI := [.tmp 2]
theorem chk51 : chk Tryd.prog 51 1 keep51 = some (ir51, res51) := by kernel_rfl
def ir52 : Ir :=
  (.seq
  (.reg [] [o 2 (.mov (cb false))])
  (.seq
  (.reg [3, 4] [o 3 (.mov (tt 0)),
    o 4 (.call 47 [(tt 3), (ci 0), (ci 1000000000)]),
    o 2 (.mov (tt 4))])
  .ret))
def keep52 : List Nat := [0, 2]
def res52 : List RI := [.tmp 2]
theorem chk52 : chk Tryd.prog 52 1 keep52 = some (ir52, res52) := by kernel_rfl
def ir49 : Ir :=
  (.seq
  (.reg [] [o 6 (.mov (cb false))])
  (.seq
  (.reg [7, 8, 9, 10, 11, 12, 13, 14, 15, 16] [o 7 (.mov (tt 0)),
    o 8 (.call 51 [(tt 7)]),
    o 9 (.mov (tt 8)),
    og 10 9 true (.mov (tt 1)),
    og 11 9 true (.call 52 [(tt 10)]),
    o 12 (.pick (tt 9) (tt 11) (cb false)),
    o 13 (.mov (tt 12)),
    og 14 13 true (.mov (tt 2)),
    og 15 13 true (.call 47 [(tt 14), (ci 0), (ci 1000)]),
    o 16 (.pick (tt 13) (tt 15) (cb false)),
    o 6 (.mov (tt 16))])
  .ret))
def keep49 : List Nat := [0, 1, 2, 6]
def res49 : List RI := [.tmp 6]
theorem chk49 : chk Tryd.prog 49 3 keep49 = some (ir49, res49) := by kernel_rfl
def ir24 : Ir :=
  (.seq
  (.reg [] [o 6 (.mov (ci 0))])
  (.seq
  (.seq
  (.reg [7, 8, 9, 10, 11, 12, 13, 14, 15, 16, 17, 18] [o 7 (.mov (tt 0)),
    o 8 (.call 51 [(tt 7)]),
    o 9 (.un .not (tt 8)),
    o 10 (.mov (tt 9)),
    og 11 10 false (.mov (tt 1)),
    og 12 10 false (.call 52 [(tt 11)]),
    og 13 10 false (.un .not (tt 12)),
    o 14 (.pick (tt 10) (cb true) (tt 13)),
    o 15 (.mov (tt 14)),
    og 16 15 false (.mov (tt 2)),
    og 17 15 false (.call 47 [(tt 16), (ci 0), (ci 7)]),
    og 18 15 false (.un .not (tt 17)),
    o 19 (.pick (tt 15) (cb true) (tt 18))])
  (.cond (tt 19)
   (.seq
   (.reg [] [o 6 (.mov (ci (-1)))])
   .ret)
   .skip))
  (.seq
  (.reg [20, 21, 22, 23] [o 20 (.mov (tt 0)),
    o 21 (.mov (tt 1)),
    o 22 (.mov (tt 2)),
    o 23 (.call 53 [(tt 20), (tt 21), (tt 22)]),
    o 6 (.mov (tt 23))])
  .ret)))
def keep24 : List Nat := [0, 1, 2, 6, 19]
def res24 : List RI := [.tmp 6]
theorem chk24 : chk Tryd.prog 24 3 keep24 = some (ir24, res24) := by kernel_rfl
def ir50 : Ir :=
  (.seq
  (.reg [] [o 6 (.mov (ci 0))])
  (.seq
  (.seq
  (.reg [7, 8, 9, 10, 11, 12, 13, 14, 15, 16, 17, 18] [o 7 (.mov (tt 0)),
    o 8 (.call 44 [(tt 7), (ci 0), (ci 1000000)]),
    o 9 (.un .not (tt 8)),
    o 10 (.mov (tt 9)),
    og 11 10 false (.mov (tt 1)),
    og 12 10 false (.call 44 [(tt 11), (ci 0), (ci 1000000000)]),
    og 13 10 false (.un .not (tt 12)),
    o 14 (.pick (tt 10) (cb true) (tt 13)),
    o 15 (.mov (tt 14)),
    og 16 15 false (.mov (tt 2)),
    og 17 15 false (.call 44 [(tt 16), (ci 0), (ci 7)]),
    og 18 15 false (.un .not (tt 17)),
    o 19 (.pick (tt 15) (cb true) (tt 18))])
  (.cond (tt 19)
   (.seq
   (.reg [] [o 6 (.mov (ci (-1)))])
   .ret)
   .skip))
  (.seq
  (.reg [20, 21, 22, 23, 24] [o 20 (.mov (tt 0)),
    o 21 (.mov (tt 1)),
    o 22 (.mov (tt 2)),
    o 23 (.call 63 [(tt 20), (tt 21), (tt 22)]),
    o 24 (.bin .rem (tt 23) (ci 200003)),
    o 6 (.mov (tt 24))])
  .ret)))
def keep50 : List Nat := [0, 1, 2, 6, 19]
def res50 : List RI := [.tmp 6]
theorem chk50 : chk Tryd.prog 50 3 keep50 = some (ir50, res50) := by kernel_rfl
def ir22 : Ir :=
  (.seq
  (.reg [] [o 6 (.mov (ci 0))])
  (.seq
  (.seq
  (.reg [7, 8, 9, 10] [o 7 (.mov (tt 0)),
    o 8 (.mov (tt 1)),
    o 9 (.mov (tt 2)),
    o 10 (.call 49 [(tt 7), (tt 8), (tt 9)]),
    o 11 (.un .not (tt 10))])
  (.cond (tt 11)
   (.seq
   (.reg [] [o 6 (.mov (ci 0))])
   .ret)
   .skip))
  (.seq
  (.dreg [12, 13, 14, 15, 16, 17, 18, 19, 20, 21, 22, 23, 24] [0, 0, 3, 0, 8, 31, 0, 0, 199, 0, 512, 1991, 4095, 8191] [(2, 1014), (2, 2014), (2, 3014), (2, 4014), (2, 5014), (2, 6014), (2, 7014), (2, 8014), (8, 1020), (8, 2020), (8, 3020), (8, 4020), (8, 5020), (8, 6020), (8, 7020), (8, 8020)] [o 12 (.mov (tt 0)),
    o 13 (.mov (tt 1)),
    o 14 (.call 24 [(tt 12), (tt 13), (ci 0)]),
    o 15 (.mov (tt 2)),
    o 16 (.bin .add (tt 15) (ci 1)),
    o 17 (.bin .rem (tt 14) (tt 16)),
    o 18 (.mov (tt 0)),
    o 19 (.mov (tt 1)),
    o 20 (.call 24 [(tt 18), (tt 19), (ci 1)]),
    o 21 (.mov (tt 2)),
    o 22 (.bin .add (tt 21) (ci 1)),
    o 23 (.bin .rem (tt 20) (tt 22)),
    o 24 (.bin .sub (tt 17) (tt 23)),
    o 6 (.mov (tt 24))])
  .ret)))
def keep22 : List Nat := [0, 1, 2, 6, 11]
def res22 : List RI := [.tmp 6]
theorem chk22 : chk Tryd.prog 22 3 keep22 = some (ir22, res22) := by kernel_rfl
def ir23 : Ir :=
  (.seq
  (.reg [] [o 6 (.mov (ci 0))])
  (.seq
  (.seq
  (.reg [7, 8, 9, 10, 11, 12, 13, 14, 15, 16, 17, 18] [o 7 (.mov (tt 0)),
    o 8 (.call 44 [(tt 7), (ci 0), (ci 1000000)]),
    o 9 (.un .not (tt 8)),
    o 10 (.mov (tt 9)),
    og 11 10 false (.mov (tt 1)),
    og 12 10 false (.call 44 [(tt 11), (ci 0), (ci 1000000000)]),
    og 13 10 false (.un .not (tt 12)),
    o 14 (.pick (tt 10) (cb true) (tt 13)),
    o 15 (.mov (tt 14)),
    og 16 15 false (.mov (tt 2)),
    og 17 15 false (.call 44 [(tt 16), (ci 0), (ci 1000)]),
    og 18 15 false (.un .not (tt 17)),
    o 19 (.pick (tt 15) (cb true) (tt 18))])
  (.cond (tt 19)
   (.seq
   (.reg [] [o 6 (.mov (ci 0))])
   .ret)
   .skip))
  (.seq
  (.dreg [20, 21, 22, 23, 24, 25, 26, 27, 28, 29, 30, 31, 32] [0, 0, 3, 0, 8, 31, 0, 0, 199, 0, 512, 1991, 4095, 8191] [(2, 1022), (2, 2022), (2, 3022), (2, 4022), (2, 5022), (2, 6022), (2, 7022), (2, 8022), (8, 1028), (8, 2028), (8, 3028), (8, 4028), (8, 5028), (8, 6028), (8, 7028), (8, 8028)] [o 20 (.mov (tt 0)),
    o 21 (.mov (tt 1)),
    o 22 (.call 50 [(tt 20), (tt 21), (ci 0)]),
    o 23 (.mov (tt 2)),
    o 24 (.bin .add (tt 23) (ci 1)),
    o 25 (.bin .rem (tt 22) (tt 24)),
    o 26 (.mov (tt 0)),
    o 27 (.mov (tt 1)),
    o 28 (.call 50 [(tt 26), (tt 27), (ci 1)]),
    o 29 (.mov (tt 2)),
    o 30 (.bin .add (tt 29) (ci 1)),
    o 31 (.bin .rem (tt 28) (tt 30)),
    o 32 (.bin .sub (tt 25) (tt 31)),
    o 6 (.mov (tt 32))])
  .ret)))
def keep23 : List Nat := [0, 1, 2, 6, 19]
def res23 : List RI := [.tmp 6]
theorem chk23 : chk Tryd.prog 23 3 keep23 = some (ir23, res23) := by kernel_rfl
def ir48 : Ir :=
  (.seq
  (.reg [] [o 2 (.mov (ci 0)),
    o 3 (.mov (ci 0))])
  (.seq
  (.dreg [4, 5, 6, 7, 8, 9, 10, 11, 12, 13, 14, 15, 16, 17, 18, 19, 20, 21, 22, 23, 24, 25] [0, 1, 3, 7, 0, 0, 35, 115, 243, 511, 1023, 0, 2147, 6243, 14435, 0, 0, 71779, 235619, 497763, 1046627, 2095203, 204799, 8388607] [(1, 1005), (1, 2005), (1, 3005), (1, 4005), (1, 5005), (1, 6005), (1, 7005), (1, 8005), (3, 7), (4, 8), (6, 1010), (6, 2010), (6, 3010), (6, 4010), (6, 5010), (6, 6010), (6, 7010), (6, 8010), (8, 1012), (10, 1014), (12, 1016), (12, 2016), (12, 3016), (12, 4016), (12, 5016), (12, 6016), (12, 7016), (12, 8016), (14, 18), (15, 19), (17, 1021), (17, 2021), (17, 3021), (17, 4021), (17, 5021), (17, 6021), (17, 7021), (17, 8021), (19, 1023), (21, 1025)] [o 4 (.mov (tt 0)),
    o 5 (.call 42 [(tt 4), (ci 256)]),
    o 6 (.bin .mul (tt 5) (ci 3000)),
    o 7 (.mkSl 1 5 [(.int .i64 0)] [(0, (tt 6)), (1, (ci 7)), (2, (ci 1000000)), (3, (ci (-1))), (4, (ci 1000001))]),
    o 8 (.mkSl 1 9 [(.int .i64 0)] [(0, (ci 0)), (1, (ci 0)), (2, (ci 0)), (3, (ci 0)), (4, (ci 1)), (5, (ci 1)), (6, (ci 2)), (7, (ci 3)), (8, (ci 4))]),
    o 9 (.mov (tt 0)),
    o 10 (.call 42 [(tt 9), (ci 9)]),
    o 11 (.idx 1 (tt 8) (tt 10)),
    o 12 (.load false 1 (tt 11)),
    o 13 (.idx 1 (tt 7) (tt 12)),
    o 14 (.load false 1 (tt 13)),
    o 15 (.mov (tt 0)),
    o 16 (.call 42 [(tt 15), (ci 256)]),
    o 17 (.bin .mul (tt 16) (ci 100000)),
    o 18 (.mkSl 1 5 [(.int .i64 0)] [(0, (tt 17)), (1, (ci 5)), (2, (ci 1000000000)), (3, (ci (-1))), (4, (ci 1000000001))]),
    o 19 (.mkSl 1 9 [(.int .i64 0)] [(0, (ci 0)), (1, (ci 0)), (2, (ci 0)), (3, (ci 0)), (4, (ci 1)), (5, (ci 1)), (6, (ci 2)), (7, (ci 3)), (8, (ci 4))]),
    o 20 (.mov (tt 0)),
    o 21 (.call 42 [(tt 20), (ci 9)]),
    o 22 (.idx 1 (tt 19) (tt 21)),
    o 23 (.load false 1 (tt 22)),
    o 24 (.idx 1 (tt 18) (tt 23)),
    o 25 (.load false 1 (tt 24)),
    o 2 (.mov (tt 14)),
    o 3 (.mov (tt 25))])
  .ret))
def keep48 : List Nat := [0, 2, 3]
def res48 : List RI := [.tmp 2, .tmp 3]
theorem chk48 : chk Tryd.prog 48 1 keep48 = some (ir48, res48) := by kernel_rfl
def ir21 : Ir :=
  (.seq
  (.reg [] [o 2 (.mov (ci 0)),
    o 3 (.mov (ci 0)),
    o 4 (.mov (ci 0))])
  (.seq
  (.reg [8, 9] [o 8 (.mov (tt 0)),
    o 9 (.call 41 [(tt 8)]),
    o 5 (.mov (tt 9))])
  (.seq
  (.reg [11, 12, 10, 13, 14] [o 11 (.mov (tt 5)),
    o 12 (.call 48 [(tt 11)]),
    o 10 (.mov (tt 12)),
    o 13 (.ext (tt 10) 0),
    o 14 (.ext (tt 10) 1),
    o 6 (.mov (tt 13)),
    o 7 (.mov (tt 14))])
  (.seq
  (.dreg [15, 16, 17, 18, 19, 20, 21, 22, 23, 24, 25, 26] [0, 0, 0, 4, 12, 0, 0, 76, 236, 492, 1020, 2044, 205, 4303, 16383] [(3, 1018), (3, 2018), (3, 3018), (3, 4018), (3, 5018), (3, 6018), (3, 7018), (3, 8018), (4, 19), (5, 20), (7, 1022), (7, 2022), (7, 3022), (7, 4022), (7, 5022), (7, 6022), (7, 7022), (7, 8022), (9, 1024), (11, 1026)] [o 15 (.mov (tt 6)),
    o 16 (.mov (tt 7)),
    o 17 (.mov (tt 5)),
    o 18 (.call 42 [(tt 17), (ci 20)]),
    o 19 (.mkSl 1 5 [(.int .i64 0)] [(0, (tt 18)), (1, (ci 1000)), (2, (ci 0)), (3, (ci 1001)), (4, (ci (-1)))]),
    o 20 (.mkSl 1 8 [(.int .i64 0)] [(0, (ci 0)), (1, (ci 0)), (2, (ci 0)), (3, (ci 0)), (4, (ci 1)), (5, (ci 2)), (6, (ci 3)), (7, (ci 4))]),
    o 21 (.mov (tt 5)),
    o 22 (.call 42 [(tt 21), (ci 8)]),
    o 23 (.idx 1 (tt 20) (tt 22)),
    o 24 (.load false 1 (tt 23)),
    o 25 (.idx 1 (tt 19) (tt 24)),
    o 26 (.load false 1 (tt 25)),
    o 2 (.mov (tt 15)),
    o 3 (.mov (tt 16)),
    o 4 (.mov (tt 26))])
  .ret))))
def keep21 : List Nat := [0, 2, 3, 4, 5, 6, 7]
def res21 : List RI := [.tmp 2, .tmp 3, .tmp 4]
theorem chk21 : chk Tryd.prog 21 1 keep21 = some (ir21, res21) := by kernel_rfl
def ir5 : Ir :=
  (.seq
  (.reg [] [o 2 (.mov (cb false))])
  (.seq
  (.seq
  (.reg [9, 10] [o 9 (.mov (tt 0)),
    o 10 (.len (tt 9)),
    o 11 (.bin .gtr (tt 10) (ci 1048576))])
  (.cond (tt 11)
   (.seq
   (.reg [] [o 2 (.mov (cb true))])
   .ret)
   .skip))
  (.seq
  (.reg [13, 14, 12, 15, 16, 17] [o 13 (.mov (tt 0)),
    o 14 (.call 21 [(tt 13)]),
    o 12 (.mov (tt 14)),
    o 15 (.ext (tt 12) 0),
    o 16 (.ext (tt 12) 1),
    o 17 (.ext (tt 12) 2),
    o 3 (.mov (tt 15)),
    o 4 (.mov (tt 16)),
    o 5 (.mov (tt 17))])
  (.seq
  (.seq
  (.reg [18, 19, 20, 21, 22, 23, 24, 25] [o 18 (.mov (tt 3)),
    o 19 (.mov (tt 4)),
    o 20 (.mov (tt 5)),
    o 21 (.call 22 [(tt 18), (tt 19), (tt 20)]),
    o 22 (.mov (tt 3)),
    o 23 (.mov (tt 4)),
    o 24 (.mov (tt 5)),
    o 25 (.call 23 [(tt 22), (tt 23), (tt 24)]),
    o 26 (.bin .neq (tt 21) (tt 25))])
  (.cond (tt 26)
   (.seq
   (.reg [] [o 2 (.mov (cb false))])
   .ret)
   .skip))
  (.seq
  (.reg [27, 28, 29] [o 27 (.mov (tt 3)),
    o 28 (.mov (tt 4)),
    o 29 (.call 22 [(tt 27), (tt 28), (ci 1)]),
    o 6 (.mov (tt 29))])
  (.seq
  (.reg [30, 31, 32] [o 30 (.mov (tt 3)),
    o 31 (.mov (tt 4)),
    o 32 (.call 24 [(tt 30), (tt 31), (ci 0)]),
    o 7 (.mov (tt 32))])
  (.seq
  (.reg [33, 34, 35] [o 33 (.mov (tt 3)),
    o 34 (.mov (tt 4)),
    o 35 (.call 24 [(tt 33), (tt 34), (ci 1)]),
    o 8 (.mov (tt 35))])
  (.seq
  (.seq
  (.reg [36, 37, 38, 39, 40] [o 36 (.mov (tt 7)),
    o 37 (.bin .lss (tt 36) (ci 0)),
    o 38 (.mov (tt 37)),
    og 39 38 false (.mov (tt 8)),
    og 40 38 false (.bin .lss (tt 39) (ci 0)),
    o 41 (.pick (tt 38) (cb true) (tt 40))])
  (.cond (tt 41)
   (.seq
   (.reg [42, 43, 44, 45, 46] [o 42 (.mov (tt 6)),
     o 43 (.bin .eql (tt 42) (ci 0)),
     o 44 (.mov (tt 43)),
     og 45 44 true (.call 17 []),
     o 46 (.pick (tt 44) (tt 45) (cb false)),
     o 2 (.mov (tt 46))])
   .ret)
   .skip))
  (.seq
  (.reg [47, 48, 49, 50, 51, 52, 53] [o 47 (.mov (tt 6)),
    o 48 (.mov (tt 7)),
    o 49 (.bin .rem (tt 48) (ci 2)),
    o 50 (.mov (tt 8)),
    o 51 (.bin .rem (tt 50) (ci 2)),
    o 52 (.bin .sub (tt 49) (tt 51)),
    o 53 (.bin .eql (tt 47) (tt 52)),
    o 2 (.mov (tt 53))])
  .ret)))))))))
def keep5 : List Nat := [0, 2, 3, 4, 5, 6, 7, 8, 11, 26, 41]
def res5 : List RI := [.tmp 2]
theorem chk5 : chk Tryd.prog 5 1 keep5 = some (ir5, res5) := by kernel_rfl
def ir6 : Ir :=
  (.seq
  (.reg [] [o 2 (.mov (cb false))])
  (.seq
  (.seq
  (.reg [7, 8] [o 7 (.mov (tt 0)),
    o 8 (.len (tt 7)),
    o 9 (.bin .gtr (tt 8) (ci 1048576))])
  (.cond (tt 9)
   (.seq
   (.reg [] [o 2 (.mov (cb true))])
   .ret)
   .skip))
  (.seq
  (.reg [11, 12, 10, 13, 14, 15] [o 11 (.mov (tt 0)),
    o 12 (.call 21 [(tt 11)]),
    o 10 (.mov (tt 12)),
    o 13 (.ext (tt 10) 0),
    o 14 (.ext (tt 10) 1),
    o 15 (.ext (tt 10) 2),
    o 3 (.mov (tt 13)),
    o 4 (.mov (tt 14)),
    o 5 (.mov (tt 15))])
  (.seq
  (.reg [16, 17, 18, 19] [o 16 (.mov (tt 3)),
    o 17 (.mov (tt 4)),
    o 18 (.mov (tt 5)),
    o 19 (.call 22 [(tt 16), (tt 17), (tt 18)]),
    o 6 (.mov (tt 19))])
  (.seq
  (.seq
  (.reg [20, 21, 22, 23, 24] [o 20 (.mov (tt 6)),
    o 21 (.mov (tt 3)),
    o 22 (.mov (tt 4)),
    o 23 (.mov (tt 5)),
    o 24 (.call 23 [(tt 21), (tt 22), (tt 23)]),
    o 25 (.bin .neq (tt 20) (tt 24))])
  (.cond (tt 25)
   (.seq
   (.reg [] [o 2 (.mov (cb false))])
   .ret)
   .skip))
  (.seq
  (.reg [26, 27, 28, 29, 30, 31, 32, 33, 34, 35, 36, 37, 38, 39, 40, 41, 42, 43, 44, 45, 46, 47, 48, 49, 50, 51] [o 26 (.mov (tt 5)),
    o 27 (.bin .lss (tt 26) (ci 0)),
    o 28 (.mov (tt 27)),
    og 29 28 true (.mov (tt 6)),
    og 30 28 true (.bin .eql (tt 29) (ci 0)),
    o 31 (.pick (tt 28) (tt 30) (cb false)),
    o 32 (.mov (tt 31)),
    og 33 32 false (.mov (tt 6)),
    og 34 32 false (.mov (tt 5)),
    og 35 32 false (.un .neg (tt 34)),
    og 36 32 false (.bin .geq (tt 33) (tt 35)),
    og 37 32 false (.mov (tt 36)),
    og 38 37 true (.mov (tt 6)),
    og 39 37 true (.mov (tt 5)),
    og 40 37 true (.bin .leq (tt 38) (tt 39)),
    og 41 32 false (.pick (tt 37) (tt 40) (cb false)),
    o 42 (.pick (tt 32) (cb true) (tt 41)),
    o 43 (.mov (tt 42)),
    og 44 43 true (.mov (tt 3)),
    og 45 43 true (.mov (tt 4)),
    og 46 43 true (.call 22 [(tt 44), (tt 45), (ci 0)]),
    og 47 43 true (.bin .eql (tt 46) (ci 0)),
    o 48 (.pick (tt 43) (tt 47) (cb false)),
    o 49 (.mov (tt 48)),
    og 50 49 true (.call 17 []),
    o 51 (.pick (tt 49) (tt 50) (cb false)),
    o 2 (.mov (tt 51))])
  .ret))))))
def keep6 : List Nat := [0, 2, 3, 4, 5, 6, 9, 25]
def res6 : List RI := [.tmp 2]
theorem chk6 : chk Tryd.prog 6 1 keep6 = some (ir6, res6) := by kernel_rfl

def mixF (key num a : Int) : Nat → Int
  | 0 => (7 * key + 13 * num + 29 * a + 11).tmod 2147483647
  | k + 1 => (48271 * mixF key num a k + key + num + (k : Int)).tmod 2147483647
def keyB (x : Int) : Bool := inB x 0 1000000
def numB (x : Int) : Bool := inB x 0 1000000000
theorem mixF_rng {key num a : Int} (hk : keyB key = true) (hn : numB num = true) (h0 : 0 ≤ a) (h1 : a ≤ 100) : ∀ k, 0 ≤ mixF key num a k ∧ mixF key num a k ≤ 2147483646
  | 0 => by
    have := inB_iff.1 hk
    have := inB_iff.1 hn
    have := tmod_rng (a := 7 * key + 13 * num + 29 * a + 11) (m := 2147483647) (by omega) (by decide)
    simp only [mixF]; omega
  | k + 1 => by
    have := inB_iff.1 hk
    have := inB_iff.1 hn
    have := mixF_rng hk hn h0 h1 k
    have := tmod_rng (a := 48271 * mixF key num a k + key + num + (k : Int)) (m := 2147483647) (by omega) (by decide)
    simp only [mixF]; omega
def streamV (key num a : Int) : Int := if keyB key && numB num && inB a 0 7 then (mixF key num a 3).tmod 200003 else -1
def noiseV (key num most : Int) : Int := if keyB key && numB num && inB most 0 1000 then (streamV key num 0).tmod (most + 1) - (streamV key num 1).tmod (most + 1) else 0

def in_stream (key num a : Int) := (G0, res53, ([] : List (Nat × Ob)), [Item.ir ir53], start [AI key, AI num, AI a] [])
theorem ev_stream : ∀ (key num a : Int),
  ev G0 res53 [] (3000 : Nat) Or.nil [Item.ir ir53] (start [AI key, AI num, AI a] []) =
    VC.need ((2147483647 : Int) ≠ (0 : Int))
      (VC.loop ir53_L1 [Item.bend (0 : Nat), Item.ir ir53_T2]
        {
          env :=
            [((0 : Nat), AV.p true (PV.v (Value.int IntKind.i64 key))),
              ((1 : Nat), AV.p true (PV.v (Value.int IntKind.i64 num))),
              ((2 : Nat), AV.p true (PV.v (Value.int IntKind.i64 a))),
              ((6 : Nat), AV.p true (PV.v (Value.int IntKind.i64 (0 : Int)))),
              ((7 : Nat),
                AV.p true
                  (PV.v
                    (Value.int IntKind.i64
                      ((IntKind.i64.wrap
                            (IntKind.i64.wrap
                                (IntKind.i64.wrap
                                    (IntKind.i64.wrap ((7 : Int) * key) + IntKind.i64.wrap ((13 : Int) * num)) +
                                  IntKind.i64.wrap ((29 : Int) * a)) +
                              (11 : Int))).tmod
                        (2147483647 : Int))))),
              ((19 : Nat), AV.p true (PV.v (Value.int IntKind.i64 (0 : Int))))],
          H := [] }) := by
  intros; kernel_rfl
def st_stream (key num a : Int) (k : Nat) : St := ⟨[(0, AI key), (1, AI num), (7, AI (mixF key num a k)), (19, AI k)], []⟩
def r_stream (key num a : Int) (I : Nat → St → Prop) (k : Nat) := (G0, res53, ([] : List (Nat × Ob)), [Item.ir ir53_L1, .lend (I k), Item.bend 0, Item.ir ir53_T2], st_stream key num a k)
theorem evr_stream : ∀ (key num a : Int) (I : Nat → St → Prop) (k : Nat),
  ev G0 res53 [] (3000 : Nat) (Or.nil.split Or.nil)
      [Item.ir ir53_L1, Item.lend (I k), Item.bend (0 : Nat), Item.ir ir53_T2] (st_stream key num a k) =
    VC.split (decide ((↑k : Int) < (3 : Int)))
      (VC.need ((2147483647 : Int) ≠ (0 : Int))
        (VC.lend (I k)
          {
            env :=
              [((0 : Nat), AV.p true (PV.v (Value.int IntKind.i64 key))),
                ((1 : Nat), AV.p true (PV.v (Value.int IntKind.i64 num))),
                ((7 : Nat),
                  AV.p true
                    (PV.v
                      (Value.int IntKind.i64
                        ((IntKind.i64.wrap
                              (IntKind.i64.wrap
                                  (IntKind.i64.wrap (IntKind.i64.wrap ((48271 : Int) * mixF key num a k) + key) + num) +
                                (↑k : Int))).tmod
                          (2147483647 : Int))))),
                ((19 : Nat), AV.p true (PV.v (Value.int IntKind.i64 (IntKind.i64.wrap ((↑k : Int) + (1 : Int)))))),
                ((20 : Nat), AV.p true (PV.v (Value.bool (decide ((↑k : Int) < (3 : Int)))))),
                ((8 : Nat), AV.p true (PV.v (Value.int IntKind.i64 (↑k : Int))))],
            H := [] }))
      (VC.need ((200003 : Int) ≠ (0 : Int))
        (VC.doneP (AV.p true (PV.v (Value.int IntKind.i64 ((mixF key num a k).tmod (200003 : Int))))))) := by
  intros; kernel_rfl
theorem c_stream (key num a : Int) (hk : keyB key = true) (hn : numB num = true) (h0 : 0 ≤ a) (h1 : a ≤ 100) : PRet Tryd.prog G0 53 [AI key, AI num, AI a] (AI ((mixF key num a 3).tmod 200003)) := by
  have k1 := inB_iff.1 hk
  have k2 := inB_iff.1 hn
  refine PRet.by chk53 (ev_stream key num a) ?_
  have w1 : IntKind.i64.wrap (7 * key) = 7 * key := wrap_in (by omega) (by omega)
  have w2 : IntKind.i64.wrap (13 * num) = 13 * num := wrap_in (by omega) (by omega)
  have w3 : IntKind.i64.wrap (7 * key + 13 * num) = 7 * key + 13 * num := wrap_in (by omega) (by omega)
  have w4 : IntKind.i64.wrap (29 * a) = 29 * a := wrap_in (by omega) (by omega)
  have w5 : IntKind.i64.wrap (7 * key + 13 * num + 29 * a) = 7 * key + 13 * num + 29 * a := wrap_in (by omega) (by omega)
  have w6 : IntKind.i64.wrap (7 * key + 13 * num + 29 * a + 11) = 7 * key + 13 * num + 29 * a + 11 := wrap_in (by omega) (by omega)
  simp only [w1, w2, w3, w4, w5, w6, VC.holds_split, VC.holds_need, VC.holds_doneP, VC.holds_done, VC.holds_either, VC.holds_call, VC.holds_callE, VC.holds_lend, VC.holds_stop, VC.holds_fail, decide_eq_true_eq, decide_eq_false_iff_not]
  refine ⟨by omega, loop_by (st_stream key num a) (fun k => k ≤ 3) (fun k => 3 - k) 0 [] [] [] (by omega) ?_ (evr_stream key num a) fun k hk3 => ?_⟩
  · simp [st_stream, hbs, St.lowers, St.lower, stLe, leEnv, leObs, obLe, injB, pinC, AV.leC, AV.leCs, PV.leC, PV.Le_v, St.get, St.obj, look, rho, isNew, keptC, renH, Mode.ok, Mode.isZ, PV.isVal, PV.isNilSl, List.all_nil, List.all_cons, List.any_nil, List.any_cons, List.map_nil, List.map_cons, mixF]
  · have hm := mixF_rng hk hn h0 h1 k
    have v1 : IntKind.i64.wrap (48271 * mixF key num a k) = 48271 * mixF key num a k := wrap_in (by omega) (by omega)
    have v2 : IntKind.i64.wrap (48271 * mixF key num a k + key) = 48271 * mixF key num a k + key := wrap_in (by omega) (by omega)
    have v3 : IntKind.i64.wrap (48271 * mixF key num a k + key + num) = 48271 * mixF key num a k + key + num := wrap_in (by omega) (by omega)
    have v4 : IntKind.i64.wrap (48271 * mixF key num a k + key + num + (k : Int)) = 48271 * mixF key num a k + key + num + (k : Int) := wrap_in (by omega) (by omega)
    have v5 : IntKind.i64.wrap ((k : Int) + 1) = ((k + 1 : Nat) : Int) := wrap_in (by omega) (by omega)
    simp only [v1, v2, v3, v4, v5, VC.holds_split, VC.holds_need, VC.holds_doneP, VC.holds_done, VC.holds_either, VC.holds_call, VC.holds_callE, VC.holds_lend, VC.holds_stop, VC.holds_fail, decide_eq_true_eq, decide_eq_false_iff_not]
    refine ⟨fun h => ⟨by omega, Again.mk (k + 1) [] [] [] (by omega) (by omega) ?_⟩, fun h => ⟨by omega, ?_⟩⟩
    · simp [st_stream, hbs, St.lowers, St.lower, stLe, leEnv, leObs, obLe, injB, pinC, AV.leC, AV.leCs, PV.leC, PV.Le_v, St.get, St.obj, look, rho, isNew, keptC, renH, Mode.ok, Mode.isZ, PV.isVal, PV.isNilSl, List.all_nil, List.all_cons, List.any_nil, List.any_cons, List.map_nil, List.map_cons, mixF]
    · have : k = 3 := by omega
      subst this
      simp
def in_mix (key num a : Int) := (G0, res63, ([] : List (Nat × Ob)), [Item.ir ir63], start [AI key, AI num, AI a] [])
theorem ev_mix : ∀ (key num a : Int),
  ev G0 res63 [] (3000 : Nat) Or.nil [Item.ir ir63] (start [AI key, AI num, AI a] []) =
    VC.need ((2147483647 : Int) ≠ (0 : Int))
      (VC.loop ir63_L1 [Item.bend (0 : Nat), Item.ir ir63_T2]
        {
          env :=
            [((0 : Nat), AV.p true (PV.v (Value.int IntKind.i64 key))),
              ((1 : Nat), AV.p true (PV.v (Value.int IntKind.i64 num))),
              ((2 : Nat), AV.p true (PV.v (Value.int IntKind.i64 a))),
              ((6 : Nat), AV.p true (PV.v (Value.int IntKind.i64 (0 : Int)))),
              ((7 : Nat),
                AV.p true
                  (PV.v
                    (Value.int IntKind.i64
                      ((IntKind.i64.wrap
                            (IntKind.i64.wrap
                                (IntKind.i64.wrap
                                    (IntKind.i64.wrap (key * (7 : Int)) + IntKind.i64.wrap (num * (13 : Int))) +
                                  IntKind.i64.wrap (a * (29 : Int))) +
                              (11 : Int))).tmod
                        (2147483647 : Int))))),
              ((8 : Nat), AV.p true (PV.v (Value.int IntKind.i64 (0 : Int))))],
          H := [] }) := by
  intros; kernel_rfl
def st_mix (key num a : Int) (k : Nat) : St := ⟨[(0, AI key), (1, AI num), (7, AI (mixF key num a k)), (8, AI k)], []⟩
def r_mix (key num a : Int) (I : Nat → St → Prop) (k : Nat) := (G0, res63, ([] : List (Nat × Ob)), [Item.ir ir63_L1, .lend (I k), Item.bend 0, Item.ir ir63_T2], st_mix key num a k)
theorem evr_mix : ∀ (key num a : Int) (I : Nat → St → Prop) (k : Nat),
  ev G0 res63 [] (3000 : Nat) (Or.nil.split Or.nil)
      [Item.ir ir63_L1, Item.lend (I k), Item.bend (0 : Nat), Item.ir ir63_T2] (st_mix key num a k) =
    VC.split (decide ((↑k : Int) < (3 : Int)))
      (VC.need ((2147483647 : Int) ≠ (0 : Int))
        (VC.lend (I k)
          {
            env :=
              [((0 : Nat), AV.p true (PV.v (Value.int IntKind.i64 key))),
                ((1 : Nat), AV.p true (PV.v (Value.int IntKind.i64 num))),
                ((7 : Nat),
                  AV.p true
                    (PV.v
                      (Value.int IntKind.i64
                        ((IntKind.i64.wrap
                              (IntKind.i64.wrap
                                  (IntKind.i64.wrap (IntKind.i64.wrap (mixF key num a k * (48271 : Int)) + key) + num) +
                                (↑k : Int))).tmod
                          (2147483647 : Int))))),
                ((8 : Nat), AV.p true (PV.v (Value.int IntKind.i64 (IntKind.i64.wrap ((↑k : Int) + (1 : Int)))))),
                ((20 : Nat), AV.p true (PV.v (Value.bool (decide ((↑k : Int) < (3 : Int))))))],
            H := [] }))
      (VC.doneP (AV.p true (PV.v (Value.int IntKind.i64 (mixF key num a k))))) := by
  intros; kernel_rfl
theorem c_mix (key num a : Int) (hk : keyB key = true) (hn : numB num = true) (h0 : 0 ≤ a) (h1 : a ≤ 100) : PRet Tryd.prog G0 63 [AI key, AI num, AI a] (AI (mixF key num a 3)) := by
  have k1 := inB_iff.1 hk
  have k2 := inB_iff.1 hn
  refine PRet.by chk63 (ev_mix key num a) ?_
  have w1 : IntKind.i64.wrap (key * 7) = 7 * key := (wrap_in (by omega) (by omega)).trans (by omega)
  have w2 : IntKind.i64.wrap (num * 13) = 13 * num := (wrap_in (by omega) (by omega)).trans (by omega)
  have w3 : IntKind.i64.wrap (7 * key + 13 * num) = 7 * key + 13 * num := wrap_in (by omega) (by omega)
  have w4 : IntKind.i64.wrap (a * 29) = 29 * a := (wrap_in (by omega) (by omega)).trans (by omega)
  have w5 : IntKind.i64.wrap (7 * key + 13 * num + 29 * a) = 7 * key + 13 * num + 29 * a := wrap_in (by omega) (by omega)
  have w6 : IntKind.i64.wrap (7 * key + 13 * num + 29 * a + 11) = 7 * key + 13 * num + 29 * a + 11 := wrap_in (by omega) (by omega)
  simp only [w1, w2, w3, w4, w5, w6, VC.holds_split, VC.holds_need, VC.holds_doneP, VC.holds_done, VC.holds_either, VC.holds_call, VC.holds_callE, VC.holds_lend, VC.holds_stop, VC.holds_fail, decide_eq_true_eq, decide_eq_false_iff_not]
  refine ⟨by omega, loop_by (st_mix key num a) (fun k => k ≤ 3) (fun k => 3 - k) 0 [] [] [] (by omega) ?_ (evr_mix key num a) fun k hk3 => ?_⟩
  · simp [st_mix, hbs, St.lowers, St.lower, stLe, leEnv, leObs, obLe, injB, pinC, AV.leC, AV.leCs, PV.leC, PV.Le_v, St.get, St.obj, look, rho, isNew, keptC, renH, Mode.ok, Mode.isZ, PV.isVal, PV.isNilSl, List.all_nil, List.all_cons, List.any_nil, List.any_cons, List.map_nil, List.map_cons, mixF]
  · have hm := mixF_rng hk hn h0 h1 k
    have v1 : IntKind.i64.wrap (mixF key num a k * 48271) = 48271 * mixF key num a k := (wrap_in (by omega) (by omega)).trans (by omega)
    have v2 : IntKind.i64.wrap (48271 * mixF key num a k + key) = 48271 * mixF key num a k + key := wrap_in (by omega) (by omega)
    have v3 : IntKind.i64.wrap (48271 * mixF key num a k + key + num) = 48271 * mixF key num a k + key + num := wrap_in (by omega) (by omega)
    have v4 : IntKind.i64.wrap (48271 * mixF key num a k + key + num + (k : Int)) = 48271 * mixF key num a k + key + num + (k : Int) := wrap_in (by omega) (by omega)
    have v5 : IntKind.i64.wrap ((k : Int) + 1) = ((k + 1 : Nat) : Int) := wrap_in (by omega) (by omega)
    simp only [v1, v2, v3, v4, v5, VC.holds_split, VC.holds_need, VC.holds_doneP, VC.holds_done, VC.holds_either, VC.holds_call, VC.holds_callE, VC.holds_lend, VC.holds_stop, VC.holds_fail, decide_eq_true_eq, decide_eq_false_iff_not]
    refine ⟨fun h => ⟨by omega, Again.mk (k + 1) [] [] [] (by omega) (by omega) ?_⟩, fun h => ?_⟩
    · simp [st_mix, hbs, St.lowers, St.lower, stLe, leEnv, leObs, obLe, injB, pinC, AV.leC, AV.leCs, PV.leC, PV.Le_v, St.get, St.obj, look, rho, isNew, keptC, renH, Mode.ok, Mode.isZ, PV.isVal, PV.isNilSl, List.all_nil, List.all_cons, List.any_nil, List.any_cons, List.map_nil, List.map_cons, mixF]
    · have : k = 3 := by omega
      subst this
      simp
def in_isKey (x : Int) := (G0, res51, ([] : List (Nat × Ob)), [Item.ir ir51], start [AI x] [])
theorem ev_isKey : ∀ (x : Int),
  ev G0 res51 [] (3000 : Nat) (Or.call [] (AB (inB x (0 : Int) (1000000 : Int))) [] Or.nil) [Item.ir ir51]
      (start [AI x] []) =
    VC.call (47 : Nat)
      [AV.p true (PV.v (Value.int IntKind.i64 x)), AV.p true (PV.v (Value.int IntKind.i64 (0 : Int))),
        AV.p true (PV.v (Value.int IntKind.i64 (1000000 : Int)))]
      [] (AB (inB x (0 : Int) (1000000 : Int))) []
      (VC.doneP (AV.p true (PV.v (Value.bool (inB x (0 : Int) (1000000 : Int)))))) := by
  intros; kernel_rfl
theorem c_isKey (x : Int) : PRet Tryd.prog G0 51 [AI x] (AB (keyB x)) := by
  refine PRet.by chk51 (ev_isKey x) ?_
  simp only [VC.holds_split, VC.holds_need, VC.holds_doneP, VC.holds_done, VC.holds_either, VC.holds_call, VC.holds_callE, VC.holds_lend, VC.holds_stop, VC.holds_fail, decide_eq_true_eq, decide_eq_false_iff_not]
  exact ⟨c_in _ _ _, by simp [keyB]⟩
def in_isNumber (x : Int) := (G0, res52, ([] : List (Nat × Ob)), [Item.ir ir52], start [AI x] [])
theorem ev_isNumber : ∀ (x : Int),
  ev G0 res52 [] (3000 : Nat) (Or.call [] (AB (inB x (0 : Int) (1000000000 : Int))) [] Or.nil) [Item.ir ir52]
      (start [AI x] []) =
    VC.call (47 : Nat)
      [AV.p true (PV.v (Value.int IntKind.i64 x)), AV.p true (PV.v (Value.int IntKind.i64 (0 : Int))),
        AV.p true (PV.v (Value.int IntKind.i64 (1000000000 : Int)))]
      [] (AB (inB x (0 : Int) (1000000000 : Int))) []
      (VC.doneP (AV.p true (PV.v (Value.bool (inB x (0 : Int) (1000000000 : Int)))))) := by
  intros; kernel_rfl
theorem c_isNumber (x : Int) : PRet Tryd.prog G0 52 [AI x] (AB (numB x)) := by
  refine PRet.by chk52 (ev_isNumber x) ?_
  simp only [VC.holds_split, VC.holds_need, VC.holds_doneP, VC.holds_done, VC.holds_either, VC.holds_call, VC.holds_callE, VC.holds_lend, VC.holds_stop, VC.holds_fail, decide_eq_true_eq, decide_eq_false_iff_not]
  exact ⟨c_in _ _ _, by simp [numB]⟩
def in_fits (x y z : Int) := (G0, res49, ([] : List (Nat × Ob)), [Item.ir ir49], start [AI x, AI y, AI z] [])
theorem ev_fits : ∀ (x y z : Int),
  ev G0 res49 [] (3000 : Nat)
      (Or.call [] (AB (keyB x)) []
        ((Or.call [] (AB (numB y)) []
                ((Or.call [] (AB (inB z (0 : Int) (1000 : Int))) [] Or.nil.lit).lit.split Or.nil.lit.lit).lit).lit.split
          Or.nil.lit.lit.lit.lit.lit))
      [Item.ir ir49] (start [AI x, AI y, AI z] []) =
    VC.call (51 : Nat) [AV.p true (PV.v (Value.int IntKind.i64 x))] [] (AB (keyB x)) []
      (VC.split (keyB x)
        (VC.call (52 : Nat) [AV.p true (PV.v (Value.int IntKind.i64 y))] [] (AB (numB y)) []
          (VC.split (numB y)
            (VC.call (47 : Nat)
              [AV.p true (PV.v (Value.int IntKind.i64 z)), AV.p true (PV.v (Value.int IntKind.i64 (0 : Int))),
                AV.p true (PV.v (Value.int IntKind.i64 (1000 : Int)))]
              [] (AB (inB z (0 : Int) (1000 : Int))) []
              (VC.doneP (AV.p true (PV.v (Value.bool (inB z (0 : Int) (1000 : Int)))))))
            (VC.doneP (AV.p true (PV.v (Value.bool false))))))
        (VC.doneP (AV.p true (PV.v (Value.bool false))))) := by
  intros; kernel_rfl
theorem c_fits (x y z : Int) : PRet Tryd.prog G0 49 [AI x, AI y, AI z] (AB (keyB x && numB y && inB z 0 1000)) := by
  refine PRet.by chk49 (ev_fits x y z) ?_
  simp only [VC.holds_split, VC.holds_need, VC.holds_doneP, VC.holds_done, VC.holds_either, VC.holds_call, VC.holds_callE, VC.holds_lend, VC.holds_stop, VC.holds_fail, decide_eq_true_eq, decide_eq_false_iff_not]
  refine ⟨c_isKey _, fun h => ⟨c_isNumber _, fun h2 => ⟨c_in _ _ _, by simp [h, h2]⟩, fun h2 => by simp [h2]⟩, fun h => by simp [h]⟩
def in_imSA (x y z : Int) := (G0, res24, ([] : List (Nat × Ob)), [Item.ir ir24], start [AI x, AI y, AI z] [])
theorem ev_imSA : ∀ (x y z : Int),
  ev G0 res24 [] (3000 : Nat)
      (Or.call [] (AB (keyB x)) []
        (Or.nil.lit.lit.lit.lit.lit.lit.lit.lit.split
          (Or.call [] (AB (numB y)) []
              (Or.nil.lit.lit.lit.lit.split
                    (Or.call [] (AB (inB z (0 : Int) (7 : Int))) []
                        (Or.nil.split
                              (Or.call [] (AI ((mixF x y z (3 : Nat)).tmod (200003 : Int))) []
                                Or.nil)).lit.lit).lit).lit.lit).lit))
      [Item.ir ir24] (start [AI x, AI y, AI z] []) =
    VC.call (51 : Nat) [AV.p true (PV.v (Value.int IntKind.i64 x))] [] (AB (keyB x)) []
      (VC.split (!keyB x) (VC.doneP (AV.p true (PV.v (Value.int IntKind.i64 (-1 : Int)))))
        (VC.call (52 : Nat) [AV.p true (PV.v (Value.int IntKind.i64 y))] [] (AB (numB y)) []
          (VC.split (!numB y) (VC.doneP (AV.p true (PV.v (Value.int IntKind.i64 (-1 : Int)))))
            (VC.call (47 : Nat)
              [AV.p true (PV.v (Value.int IntKind.i64 z)), AV.p true (PV.v (Value.int IntKind.i64 (0 : Int))),
                AV.p true (PV.v (Value.int IntKind.i64 (7 : Int)))]
              [] (AB (inB z (0 : Int) (7 : Int))) []
              (VC.split (!inB z (0 : Int) (7 : Int)) (VC.doneP (AV.p true (PV.v (Value.int IntKind.i64 (-1 : Int)))))
                (VC.call (53 : Nat)
                  [AV.p true (PV.v (Value.int IntKind.i64 x)), AV.p true (PV.v (Value.int IntKind.i64 y)),
                    AV.p true (PV.v (Value.int IntKind.i64 z))]
                  [] (AI ((mixF x y z (3 : Nat)).tmod (200003 : Int))) []
                  (VC.doneP
                    (AV.p true (PV.v (Value.int IntKind.i64 ((mixF x y z (3 : Nat)).tmod (200003 : Int)))))))))))) := by
  intros; kernel_rfl
theorem c_imSA (x y z : Int) : PRet Tryd.prog G0 24 [AI x, AI y, AI z] (AI (streamV x y z)) := by
  refine PRet.by chk24 (ev_imSA x y z) ?_
  simp only [VC.holds_split, VC.holds_need, VC.holds_doneP, VC.holds_done, VC.holds_either, VC.holds_call, VC.holds_callE, VC.holds_lend, VC.holds_stop, VC.holds_fail, decide_eq_true_eq, decide_eq_false_iff_not, Bool.not_eq_true', Bool.not_eq_false']
  refine ⟨c_isKey _, fun h => by simp [streamV, h], fun h => ⟨c_isNumber _, fun h2 => by simp [streamV, h2], fun h2 => ⟨c_in _ _ _, fun h3 => by simp [streamV, h3], fun h3 => ?_⟩⟩⟩
  have := inB_iff.1 h3
  exact ⟨c_stream _ _ _ h h2 (by omega) (by omega), by simp [streamV, h, h2, h3]⟩
def in_spSA (x y z : Int) := (G0, res50, ([] : List (Nat × Ob)), [Item.ir ir50], start [AI x, AI y, AI z] [])
theorem ev_spSA : ∀ (x y z : Int),
  ev G0 res50 [] (3000 : Nat)
      (Or.call [] (AB (inB x (0 : Int) (1000000 : Int))) []
        (Or.nil.lit.lit.lit.lit.lit.lit.lit.lit.split
          (Or.call [] (AB (inB y (0 : Int) (1000000000 : Int))) []
              (Or.nil.lit.lit.lit.lit.split
                    (Or.call [] (AB (inB z (0 : Int) (7 : Int))) []
                        (Or.nil.split (Or.call [] (AI (mixF x y z (3 : Nat))) [] Or.nil)).lit.lit).lit).lit.lit).lit))
      [Item.ir ir50] (start [AI x, AI y, AI z] []) =
    VC.call (44 : Nat)
      [AV.p true (PV.v (Value.int IntKind.i64 x)), AV.p true (PV.v (Value.int IntKind.i64 (0 : Int))),
        AV.p true (PV.v (Value.int IntKind.i64 (1000000 : Int)))]
      [] (AB (inB x (0 : Int) (1000000 : Int))) []
      (VC.split (!inB x (0 : Int) (1000000 : Int)) (VC.doneP (AV.p true (PV.v (Value.int IntKind.i64 (-1 : Int)))))
        (VC.call (44 : Nat)
          [AV.p true (PV.v (Value.int IntKind.i64 y)), AV.p true (PV.v (Value.int IntKind.i64 (0 : Int))),
            AV.p true (PV.v (Value.int IntKind.i64 (1000000000 : Int)))]
          [] (AB (inB y (0 : Int) (1000000000 : Int))) []
          (VC.split (!inB y (0 : Int) (1000000000 : Int))
            (VC.doneP (AV.p true (PV.v (Value.int IntKind.i64 (-1 : Int)))))
            (VC.call (44 : Nat)
              [AV.p true (PV.v (Value.int IntKind.i64 z)), AV.p true (PV.v (Value.int IntKind.i64 (0 : Int))),
                AV.p true (PV.v (Value.int IntKind.i64 (7 : Int)))]
              [] (AB (inB z (0 : Int) (7 : Int))) []
              (VC.split (!inB z (0 : Int) (7 : Int)) (VC.doneP (AV.p true (PV.v (Value.int IntKind.i64 (-1 : Int)))))
                (VC.call (63 : Nat)
                  [AV.p true (PV.v (Value.int IntKind.i64 x)), AV.p true (PV.v (Value.int IntKind.i64 y)),
                    AV.p true (PV.v (Value.int IntKind.i64 z))]
                  [] (AI (mixF x y z (3 : Nat))) []
                  (VC.need ((200003 : Int) ≠ (0 : Int))
                    (VC.doneP
                      (AV.p true (PV.v (Value.int IntKind.i64 ((mixF x y z (3 : Nat)).tmod (200003 : Int))))))))))))) := by
  intros; kernel_rfl
theorem c_spSA (x y z : Int) : PRet Tryd.prog G0 50 [AI x, AI y, AI z] (AI (streamV x y z)) := by
  refine PRet.by chk50 (ev_spSA x y z) ?_
  simp only [VC.holds_split, VC.holds_need, VC.holds_doneP, VC.holds_done, VC.holds_either, VC.holds_call, VC.holds_callE, VC.holds_lend, VC.holds_stop, VC.holds_fail, decide_eq_true_eq, decide_eq_false_iff_not, Bool.not_eq_true', Bool.not_eq_false']
  refine ⟨c_l1In _ _ _, fun h => by simp [streamV, keyB, h], fun h => ⟨c_l1In _ _ _, fun h2 => by simp [streamV, numB, h2], fun h2 => ⟨c_l1In _ _ _, fun h3 => by simp [streamV, h3], fun h3 => ?_⟩⟩⟩
  have := inB_iff.1 h3
  exact ⟨c_mix _ _ _ h h2 (by omega) (by omega), by omega, by simp [streamV, keyB, numB, h, h2, h3]⟩
theorem streamV_rng {x y z : Int} (h : keyB x = true) (h2 : numB y = true) (h3 : inB z 0 7 = true) : 0 ≤ streamV x y z ∧ streamV x y z ≤ 200002 := by
  have := inB_iff.1 h3
  have hm := mixF_rng h h2 (a := z) (by omega) (by omega) 3
  have := tmod_rng (a := mixF x y z 3) (m := 200003) hm.1 (by decide)
  simp only [streamV, h, h2, h3, Bool.and_self, if_true]
  omega
def in_imNO (x y z : Int) := (G0, res22, ([] : List (Nat × Ob)), [Item.ir ir22], start [AI x, AI y, AI z] [])
theorem ev_imNO : ∀ (x y z : Int),
  ev G0 res22 [] (3000 : Nat)
      (Or.call [] (AB (keyB x && numB y && inB z (0 : Int) (1000 : Int))) []
        (Or.nil.split (Or.call [] (AI (streamV x y (0 : Int))) [] (Or.call [] (AI (streamV x y (1 : Int))) [] Or.nil))))
      [Item.ir ir22] (start [AI x, AI y, AI z] []) =
    VC.call (49 : Nat)
      [AV.p true (PV.v (Value.int IntKind.i64 x)), AV.p true (PV.v (Value.int IntKind.i64 y)),
        AV.p true (PV.v (Value.int IntKind.i64 z))]
      [] (AB (keyB x && numB y && inB z (0 : Int) (1000 : Int))) []
      (VC.split (!(keyB x && numB y && inB z (0 : Int) (1000 : Int)))
        (VC.doneP (AV.p true (PV.v (Value.int IntKind.i64 (0 : Int)))))
        (VC.call (24 : Nat)
          [AV.p true (PV.v (Value.int IntKind.i64 x)), AV.p true (PV.v (Value.int IntKind.i64 y)),
            AV.p true (PV.v (Value.int IntKind.i64 (0 : Int)))]
          [] (AI (streamV x y (0 : Int))) []
          (VC.need (IntKind.i64.wrap (z + (1 : Int)) ≠ (0 : Int))
            (VC.call (24 : Nat)
              [AV.p true (PV.v (Value.int IntKind.i64 x)), AV.p true (PV.v (Value.int IntKind.i64 y)),
                AV.p true (PV.v (Value.int IntKind.i64 (1 : Int)))]
              [] (AI (streamV x y (1 : Int))) []
              (VC.need (IntKind.i64.wrap (z + (1 : Int)) ≠ (0 : Int))
                (VC.doneP
                  (AV.p true
                    (PV.v
                      (Value.int IntKind.i64
                        (IntKind.i64.wrap
                          ((streamV x y (0 : Int)).tmod (IntKind.i64.wrap (z + (1 : Int))) -
                            (streamV x y (1 : Int)).tmod (IntKind.i64.wrap (z + (1 : Int)))))))))))))) := by
  intros; kernel_rfl
def in_spNO (x y z : Int) := (G0, res23, ([] : List (Nat × Ob)), [Item.ir ir23], start [AI x, AI y, AI z] [])
theorem ev_spNO : ∀ (x y z : Int),
  ev G0 res23 [] (3000 : Nat)
      (Or.call [] (AB (inB x (0 : Int) (1000000 : Int))) []
        (Or.nil.lit.lit.lit.lit.lit.lit.lit.lit.split
          (Or.call [] (AB (inB y (0 : Int) (1000000000 : Int))) []
              (Or.nil.lit.lit.lit.lit.split
                    (Or.call [] (AB (inB z (0 : Int) (1000 : Int))) []
                        (Or.nil.split
                              (Or.call [] (AI (streamV x y (0 : Int))) []
                                (Or.call [] (AI (streamV x y (1 : Int))) [] Or.nil))).lit.lit).lit).lit.lit).lit))
      [Item.ir ir23] (start [AI x, AI y, AI z] []) =
    VC.call (44 : Nat)
      [AV.p true (PV.v (Value.int IntKind.i64 x)), AV.p true (PV.v (Value.int IntKind.i64 (0 : Int))),
        AV.p true (PV.v (Value.int IntKind.i64 (1000000 : Int)))]
      [] (AB (inB x (0 : Int) (1000000 : Int))) []
      (VC.split (!inB x (0 : Int) (1000000 : Int)) (VC.doneP (AV.p true (PV.v (Value.int IntKind.i64 (0 : Int)))))
        (VC.call (44 : Nat)
          [AV.p true (PV.v (Value.int IntKind.i64 y)), AV.p true (PV.v (Value.int IntKind.i64 (0 : Int))),
            AV.p true (PV.v (Value.int IntKind.i64 (1000000000 : Int)))]
          [] (AB (inB y (0 : Int) (1000000000 : Int))) []
          (VC.split (!inB y (0 : Int) (1000000000 : Int))
            (VC.doneP (AV.p true (PV.v (Value.int IntKind.i64 (0 : Int)))))
            (VC.call (44 : Nat)
              [AV.p true (PV.v (Value.int IntKind.i64 z)), AV.p true (PV.v (Value.int IntKind.i64 (0 : Int))),
                AV.p true (PV.v (Value.int IntKind.i64 (1000 : Int)))]
              [] (AB (inB z (0 : Int) (1000 : Int))) []
              (VC.split (!inB z (0 : Int) (1000 : Int)) (VC.doneP (AV.p true (PV.v (Value.int IntKind.i64 (0 : Int)))))
                (VC.call (50 : Nat)
                  [AV.p true (PV.v (Value.int IntKind.i64 x)), AV.p true (PV.v (Value.int IntKind.i64 y)),
                    AV.p true (PV.v (Value.int IntKind.i64 (0 : Int)))]
                  [] (AI (streamV x y (0 : Int))) []
                  (VC.need (IntKind.i64.wrap (z + (1 : Int)) ≠ (0 : Int))
                    (VC.call (50 : Nat)
                      [AV.p true (PV.v (Value.int IntKind.i64 x)), AV.p true (PV.v (Value.int IntKind.i64 y)),
                        AV.p true (PV.v (Value.int IntKind.i64 (1 : Int)))]
                      [] (AI (streamV x y (1 : Int))) []
                      (VC.need (IntKind.i64.wrap (z + (1 : Int)) ≠ (0 : Int))
                        (VC.doneP
                          (AV.p true
                            (PV.v
                              (Value.int IntKind.i64
                                (IntKind.i64.wrap
                                  ((streamV x y (0 : Int)).tmod (IntKind.i64.wrap (z + (1 : Int))) -
                                    (streamV x y (1 : Int)).tmod (IntKind.i64.wrap (z + (1 : Int)))))))))))))))))) := by
  intros; kernel_rfl
def in_key (nn : Bool) (n : Nat) (f : Nat → Int) (p : Nat) := (G0, res48, [(0, RD nn n f p)], [Item.ir ir48], start [.adr 0 0] [(0, RD nn n f p)])
theorem ev_key : ∀ (nn : Bool) (n : Nat) (f : Nat → Int) (p : Nat),
  ev G0 res48 [((0 : Nat), RD nn n f p)] (3000 : Nat)
      (Or.call [(100000 : Nat)] (AI (pickV n f p (256 : Int))) [((0 : Nat), RD nn n f (p + (1 : Nat)))]
        (Or.call [(100000 : Nat)] (AI (pickV n f (p + (1 : Nat)) (9 : Int)))
          [((0 : Nat), RD nn n f (p + (1 : Nat) + (1 : Nat)))]
          (Or.call [(100000 : Nat)] (AI (pickV n f (p + (1 : Nat) + (1 : Nat)) (256 : Int)))
            [((0 : Nat), RD nn n f (p + (1 : Nat) + (1 : Nat) + (1 : Nat)))]
            (Or.call [(100000 : Nat)] (AI (pickV n f (p + (1 : Nat) + (1 : Nat) + (1 : Nat)) (9 : Int)))
              [((0 : Nat), RD nn n f (p + (1 : Nat) + (1 : Nat) + (1 : Nat) + (1 : Nat)))] Or.nil))))
      [Item.ir ir48] (start [AV.adr (0 : Nat) (0 : Nat)] [((0 : Nat), RD nn n f p)]) =
    VC.call (42 : Nat) [AV.adr (0 : Nat) (0 : Nat), AV.p true (PV.v (Value.int IntKind.i64 (256 : Int)))]
      [((0 : Nat),
          Ob.box [AV.p false (PV.sl nn (1 : Nat) n (PB f)), AV.p true (PV.v (Value.int IntKind.i64 (↑p : Int)))])]
      (AI (pickV n f p (256 : Int))) [((0 : Nat), RD nn n f (p + (1 : Nat)))]
      (VC.call (42 : Nat) [AV.adr (0 : Nat) (0 : Nat), AV.p true (PV.v (Value.int IntKind.i64 (9 : Int)))]
        [((0 : Nat),
            Ob.box
              [AV.p false (PV.sl nn (1 : Nat) n (PB f)),
                AV.p true (PV.v (Value.int IntKind.i64 (↑(p + (1 : Nat)) : Int)))])]
        (AI (pickV n f (p + (1 : Nat)) (9 : Int))) [((0 : Nat), RD nn n f (p + (1 : Nat) + (1 : Nat)))]
        (VC.need
          ((0 : Int) ≤ pickV n f (p + (1 : Nat)) (9 : Int) ∧ (pickV n f (p + (1 : Nat)) (9 : Int)).toNat < (9 : Nat))
          (VC.need ((pickV n f (p + (1 : Nat)) (9 : Int)).toNat < (9 : Nat))
            (VC.need
              ((0 : Int) ≤
                  litI
                    [(0 : Int), (0 : Int), (0 : Int), (0 : Int), (1 : Int), (1 : Int), (2 : Int), (3 : Int), (4 : Int)]
                    (pickV n f (p + (1 : Nat)) (9 : Int)).toNat ∧
                (litI
                      [(0 : Int), (0 : Int), (0 : Int), (0 : Int), (1 : Int), (1 : Int), (2 : Int), (3 : Int),
                        (4 : Int)]
                      (pickV n f (p + (1 : Nat)) (9 : Int)).toNat).toNat <
                  (5 : Nat))
              (VC.need
                ((litI
                      [(0 : Int), (0 : Int), (0 : Int), (0 : Int), (1 : Int), (1 : Int), (2 : Int), (3 : Int),
                        (4 : Int)]
                      (pickV n f (p + (1 : Nat)) (9 : Int)).toNat).toNat <
                  (5 : Nat))
                (VC.call (42 : Nat) [AV.adr (0 : Nat) (0 : Nat), AV.p true (PV.v (Value.int IntKind.i64 (256 : Int)))]
                  [((0 : Nat),
                      Ob.box
                        [AV.p false (PV.sl nn (1 : Nat) n (PB f)),
                          AV.p true (PV.v (Value.int IntKind.i64 (↑(p + (1 : Nat) + (1 : Nat)) : Int)))])]
                  (AI (pickV n f (p + (1 : Nat) + (1 : Nat)) (256 : Int)))
                  [((0 : Nat), RD nn n f (p + (1 : Nat) + (1 : Nat) + (1 : Nat)))]
                  (VC.call (42 : Nat) [AV.adr (0 : Nat) (0 : Nat), AV.p true (PV.v (Value.int IntKind.i64 (9 : Int)))]
                    [((0 : Nat),
                        Ob.box
                          [AV.p false (PV.sl nn (1 : Nat) n (PB f)),
                            AV.p true (PV.v (Value.int IntKind.i64 (↑(p + (1 : Nat) + (1 : Nat) + (1 : Nat)) : Int)))])]
                    (AI (pickV n f (p + (1 : Nat) + (1 : Nat) + (1 : Nat)) (9 : Int)))
                    [((0 : Nat), RD nn n f (p + (1 : Nat) + (1 : Nat) + (1 : Nat) + (1 : Nat)))]
                    (VC.need
                      ((0 : Int) ≤ pickV n f (p + (1 : Nat) + (1 : Nat) + (1 : Nat)) (9 : Int) ∧
                        (pickV n f (p + (1 : Nat) + (1 : Nat) + (1 : Nat)) (9 : Int)).toNat < (9 : Nat))
                      (VC.need ((pickV n f (p + (1 : Nat) + (1 : Nat) + (1 : Nat)) (9 : Int)).toNat < (9 : Nat))
                        (VC.need
                          ((0 : Int) ≤
                              litI
                                [(0 : Int), (0 : Int), (0 : Int), (0 : Int), (1 : Int), (1 : Int), (2 : Int), (3 : Int),
                                  (4 : Int)]
                                (pickV n f (p + (1 : Nat) + (1 : Nat) + (1 : Nat)) (9 : Int)).toNat ∧
                            (litI
                                  [(0 : Int), (0 : Int), (0 : Int), (0 : Int), (1 : Int), (1 : Int), (2 : Int),
                                    (3 : Int), (4 : Int)]
                                  (pickV n f (p + (1 : Nat) + (1 : Nat) + (1 : Nat)) (9 : Int)).toNat).toNat <
                              (5 : Nat))
                          (VC.need
                            ((litI
                                  [(0 : Int), (0 : Int), (0 : Int), (0 : Int), (1 : Int), (1 : Int), (2 : Int),
                                    (3 : Int), (4 : Int)]
                                  (pickV n f (p + (1 : Nat) + (1 : Nat) + (1 : Nat)) (9 : Int)).toNat).toNat <
                              (5 : Nat))
                            (VC.done
                              {
                                env :=
                                  [((0 : Nat), AV.adr (100000 : Nat) (0 : Nat)),
                                    ((2 : Nat),
                                      AV.p true
                                        (PV.v
                                          (Value.int IntKind.i64
                                            (litI
                                              [IntKind.i64.wrap (pickV n f p (256 : Int) * (3000 : Int)), (7 : Int),
                                                (1000000 : Int), (-1 : Int), (1000001 : Int)]
                                              (litI
                                                  [(0 : Int), (0 : Int), (0 : Int), (0 : Int), (1 : Int), (1 : Int),
                                                    (2 : Int), (3 : Int), (4 : Int)]
                                                  (pickV n f (p + (1 : Nat)) (9 : Int)).toNat).toNat)))),
                                    ((3 : Nat),
                                      AV.p true
                                        (PV.v
                                          (Value.int IntKind.i64
                                            (litI
                                              [IntKind.i64.wrap
                                                  (pickV n f (p + (1 : Nat) + (1 : Nat)) (256 : Int) * (100000 : Int)),
                                                (5 : Int), (1000000000 : Int), (-1 : Int), (1000000001 : Int)]
                                              (litI
                                                  [(0 : Int), (0 : Int), (0 : Int), (0 : Int), (1 : Int), (1 : Int),
                                                    (2 : Int), (3 : Int), (4 : Int)]
                                                  (pickV n f (p + (1 : Nat) + (1 : Nat) + (1 : Nat))
                                                      (9 : Int)).toNat).toNat))))],
                                H :=
                                  [((100000 : Nat),
                                      Ob.box
                                        [AV.p false (PV.sl nn (1 : Nat) n (PB f)),
                                          AV.p true
                                            (PV.v
                                              (Value.int IntKind.i64
                                                (↑(p + (1 : Nat) + (1 : Nat) + (1 : Nat) + (1 : Nat)) :
                                                  Int)))])] })))))))))))) := by
  intros; kernel_rfl
theorem noise_val {x y z : Int} (h : keyB x = true) (h2 : numB y = true) (h3 : inB z 0 1000 = true) : IntKind.i64.wrap (z + 1) = z + 1 ∧ z + 1 ≠ 0 ∧ IntKind.i64.wrap ((streamV x y 0).tmod (z + 1) - (streamV x y 1).tmod (z + 1)) = noiseV x y z ∧ - z ≤ noiseV x y z ∧ noiseV x y z ≤ z := by
  have hz := inB_iff.1 h3
  have s0 := streamV_rng (x := x) (y := y) (z := 0) h h2 (by decide)
  have s1 := streamV_rng (x := x) (y := y) (z := 1) h h2 (by decide)
  have t0 := tmod_rng (m := z + 1) s0.1 (by omega)
  have t1 := tmod_rng (m := z + 1) s1.1 (by omega)
  have e : noiseV x y z = (streamV x y 0).tmod (z + 1) - (streamV x y 1).tmod (z + 1) := by simp [noiseV, h, h2, h3]
  refine ⟨wrap_in (by omega) (by omega), by omega, ?_, by omega, by omega⟩
  rw [e]
  exact wrap_in (by omega) (by omega)
theorem c_imNO (x y z : Int) : PRet Tryd.prog G0 22 [AI x, AI y, AI z] (AI (noiseV x y z)) := by
  refine PRet.by chk22 (ev_imNO x y z) ?_
  simp only [VC.holds_split, VC.holds_need, VC.holds_doneP, VC.holds_done, VC.holds_either, VC.holds_call, VC.holds_callE, VC.holds_lend, VC.holds_stop, VC.holds_fail, decide_eq_true_eq, decide_eq_false_iff_not, Bool.not_eq_true', Bool.not_eq_false']
  refine ⟨c_fits _ _ _, fun h => by simp [noiseV, h], fun h => ?_⟩
  simp only [Bool.and_eq_true] at h
  obtain ⟨e1, e2, e3, _⟩ := noise_val h.1.1 h.1.2 h.2
  simp only [e1, e3]
  exact ⟨c_imSA _ _ _, e2, c_imSA _ _ _, e2, by simp⟩
theorem c_spNO (x y z : Int) : PRet Tryd.prog G0 23 [AI x, AI y, AI z] (AI (noiseV x y z)) := by
  refine PRet.by chk23 (ev_spNO x y z) ?_
  simp only [VC.holds_split, VC.holds_need, VC.holds_doneP, VC.holds_done, VC.holds_either, VC.holds_call, VC.holds_callE, VC.holds_lend, VC.holds_stop, VC.holds_fail, decide_eq_true_eq, decide_eq_false_iff_not, Bool.not_eq_true', Bool.not_eq_false']
  refine ⟨c_l1In _ _ _, fun h => by simp [noiseV, keyB, h], fun h => ⟨c_l1In _ _ _, fun h2 => by simp [noiseV, numB, h2], fun h2 => ⟨c_l1In _ _ _, fun h3 => by simp [noiseV, h3], fun h3 => ?_⟩⟩⟩
  obtain ⟨e1, e2, e3, _⟩ := noise_val (x := x) (y := y) h h2 h3
  simp only [e1, e3]
  exact ⟨c_spSA _ _ _, e2, c_spSA _ _ _, e2, by simp⟩
theorem c_key (nn : Bool) (n : Nat) (f : Nat → Int) (p : Nat) (hb : Bytes f) (hp : p ≤ 100000000) : PSome Tryd.prog G0 48 [.adr 0 0] [(0, RD nn n f p)] (Int × Int) (fun _ => True) (fun x => .tp [AI x.1, AI x.2]) (fun _ => [(0, RD nn n f (p + 4))]) := by
  refine PCall.by chk48 rfl (ev_key nn n f p) ?_
  simp only [VC.holds_split, VC.holds_need, VC.holds_doneP, VC.holds_done, VC.holds_either, VC.holds_call, VC.holds_callE, VC.holds_lend, VC.holds_stop, VC.holds_fail, decide_eq_true_eq, decide_eq_false_iff_not]
  have r1 := pick_rng (n := n) (p := p + 1) (m := 9) hb (by omega) (by omega)
  have r2 := lit_rng (lo := 0) (hi := 4) (l := [0, 0, 0, 0, 1, 1, 2, 3, 4]) (by decide) (i := (pickV n f (p + 1) 9).toNat) (by simp only [List.length_cons, List.length_nil]; omega)
  have r3 := pick_rng (n := n) (p := p + 1 + 1 + 1) (m := 9) hb (by omega) (by omega)
  have r4 := lit_rng (lo := 0) (hi := 4) (l := [0, 0, 0, 0, 1, 1, 2, 3, 4]) (by decide) (i := (pickV n f (p + 1 + 1 + 1) 9).toNat) (by simp only [List.length_cons, List.length_nil]; omega)
  refine ⟨c_pick _ _ _ _ _ hb (by omega), c_pick _ _ _ _ _ hb (by omega), ⟨r1.1, by omega⟩, by omega, ⟨r2.1, by omega⟩, by omega, c_pick _ _ _ _ _ hb (by omega), c_pick _ _ _ _ _ hb (by omega), ⟨r3.1, by omega⟩, by omega, ⟨r4.1, by omega⟩, by omega, ?_⟩
  refine ResOk.at [(0, 100000)] [] [(0, RD nn n f (p + 4))] rfl ?_ ⟨(_, _), trivial, rfl, rfl⟩
  simp [doneC, resOf, resAV, tup, pinR, hbs, St.lowers, St.lower, stLe, leEnv, leObs, obLe, injB, pinC, AV.leC, AV.leCs, PV.leC, PV.Le_v, St.get, St.obj, look, rho, isNew, keptC, renH, Mode.ok, Mode.isZ, PV.isVal, PV.isNilSl, List.all_nil, List.all_cons, List.any_nil, List.any_cons, List.map_nil, List.map_cons, res48, hbs]
  omega
def in_dNO (nn : Bool) (n : Nat) (f : Nat → Int) := (G0, res21, ([] : List (Nat × Ob)), [Item.ir ir21], start [.p false (.sl nn 1 n (PB f))] [])
theorem ev_dNO : ∀ (nn : Bool) (n : Nat) (f : Nat → Int),
  ev G0 res21 [] (3000 : Nat)
      (Or.call [] (AV.adr (0 : Nat) (0 : Nat)) [((0 : Nat), RD nn (openN n) f (0 : Nat))]
        (Or.callE [(1009 : Nat)] (Int × Int) (fun (x : Int × Int) => True)
          (fun (x : Int × Int) => AV.tp [AI x.fst, AI x.snd])
          (fun (x : Int × Int) => [((0 : Nat), RD nn (openN n) f ((0 : Nat) + (4 : Nat)))]) fun (x : Int × Int) =>
          Or.call [(1009 : Nat)] (AI (pickV (openN n) f ((0 : Nat) + (4 : Nat)) (20 : Int)))
            [((0 : Nat), RD nn (openN n) f ((0 : Nat) + (4 : Nat) + (1 : Nat)))]
            (Or.call [(1009 : Nat)] (AI (pickV (openN n) f ((0 : Nat) + (4 : Nat) + (1 : Nat)) (8 : Int)))
              [((0 : Nat), RD nn (openN n) f ((0 : Nat) + (4 : Nat) + (1 : Nat) + (1 : Nat)))] Or.nil)))
      [Item.ir ir21] (start [AV.p false (PV.sl nn (1 : Nat) n (PB f))] []) =
    VC.call (41 : Nat) [AV.p false (PV.sl nn (1 : Nat) n (PB f))] [] (AV.adr (0 : Nat) (0 : Nat))
      [((0 : Nat), RD nn (openN n) f (0 : Nat))]
      (VC.callE (Int × Int) (48 : Nat) [AV.adr (0 : Nat) (0 : Nat)]
        [((0 : Nat),
            Ob.box
              [AV.p false (PV.sl nn (1 : Nat) (openN n) (PB f)),
                AV.p true (PV.v (Value.int IntKind.i64 (↑(0 : Nat) : Int)))])]
        (fun (x : Int × Int) => True) (fun (x : Int × Int) => AV.tp [AI x.fst, AI x.snd])
        (fun (x : Int × Int) => [((0 : Nat), RD nn (openN n) f ((0 : Nat) + (4 : Nat)))]) fun (x : Int × Int) =>
        VC.call (42 : Nat) [AV.adr (0 : Nat) (0 : Nat), AV.p true (PV.v (Value.int IntKind.i64 (20 : Int)))]
          [((0 : Nat),
              Ob.box
                [AV.p false (PV.sl nn (1 : Nat) (openN n) (PB f)),
                  AV.p true (PV.v (Value.int IntKind.i64 (↑((0 : Nat) + (4 : Nat)) : Int)))])]
          (AI (pickV (openN n) f ((0 : Nat) + (4 : Nat)) (20 : Int)))
          [((0 : Nat), RD nn (openN n) f ((0 : Nat) + (4 : Nat) + (1 : Nat)))]
          (VC.call (42 : Nat) [AV.adr (0 : Nat) (0 : Nat), AV.p true (PV.v (Value.int IntKind.i64 (8 : Int)))]
            [((0 : Nat),
                Ob.box
                  [AV.p false (PV.sl nn (1 : Nat) (openN n) (PB f)),
                    AV.p true (PV.v (Value.int IntKind.i64 (↑((0 : Nat) + (4 : Nat) + (1 : Nat)) : Int)))])]
            (AI (pickV (openN n) f ((0 : Nat) + (4 : Nat) + (1 : Nat)) (8 : Int)))
            [((0 : Nat), RD nn (openN n) f ((0 : Nat) + (4 : Nat) + (1 : Nat) + (1 : Nat)))]
            (VC.need
              ((0 : Int) ≤ pickV (openN n) f ((0 : Nat) + (4 : Nat) + (1 : Nat)) (8 : Int) ∧
                (pickV (openN n) f ((0 : Nat) + (4 : Nat) + (1 : Nat)) (8 : Int)).toNat < (8 : Nat))
              (VC.need ((pickV (openN n) f ((0 : Nat) + (4 : Nat) + (1 : Nat)) (8 : Int)).toNat < (8 : Nat))
                (VC.need
                  ((0 : Int) ≤
                      litI [(0 : Int), (0 : Int), (0 : Int), (0 : Int), (1 : Int), (2 : Int), (3 : Int), (4 : Int)]
                        (pickV (openN n) f ((0 : Nat) + (4 : Nat) + (1 : Nat)) (8 : Int)).toNat ∧
                    (litI [(0 : Int), (0 : Int), (0 : Int), (0 : Int), (1 : Int), (2 : Int), (3 : Int), (4 : Int)]
                          (pickV (openN n) f ((0 : Nat) + (4 : Nat) + (1 : Nat)) (8 : Int)).toNat).toNat <
                      (5 : Nat))
                  (VC.need
                    ((litI [(0 : Int), (0 : Int), (0 : Int), (0 : Int), (1 : Int), (2 : Int), (3 : Int), (4 : Int)]
                          (pickV (openN n) f ((0 : Nat) + (4 : Nat) + (1 : Nat)) (8 : Int)).toNat).toNat <
                      (5 : Nat))
                    (VC.doneP
                      (AV.tp
                        [AV.p true (PV.v (Value.int IntKind.i64 x.1)), AV.p true (PV.v (Value.int IntKind.i64 x.2)),
                          AV.p true
                            (PV.v
                              (Value.int IntKind.i64
                                (litI
                                  [pickV (openN n) f ((0 : Nat) + (4 : Nat)) (20 : Int), (1000 : Int), (0 : Int),
                                    (1001 : Int), (-1 : Int)]
                                  (litI
                                      [(0 : Int), (0 : Int), (0 : Int), (0 : Int), (1 : Int), (2 : Int), (3 : Int),
                                        (4 : Int)]
                                      (pickV (openN n) f ((0 : Nat) + (4 : Nat) + (1 : Nat))
                                          (8 : Int)).toNat).toNat)))])))))))) := by
  intros; kernel_rfl
theorem c_dNO (nn : Bool) (n : Nat) (f : Nat → Int) (hb : Bytes f) : PSome Tryd.prog G0 21 [.p false (.sl nn 1 n (PB f))] [] (Int × Int × Int) (fun x => -1 ≤ x.2.2 ∧ x.2.2 ≤ 1001) (fun x => .tp [AI x.1, AI x.2.1, AI x.2.2]) (fun _ => []) := by
  refine PCall.by chk21 rfl (ev_dNO nn n f) ?_
  simp only [VC.holds_split, VC.holds_need, VC.holds_doneP, VC.holds_done, VC.holds_either, VC.holds_call, VC.holds_callE, VC.holds_lend, VC.holds_stop, VC.holds_fail, decide_eq_true_eq, decide_eq_false_iff_not]
  have r1 := pick_rng (n := openN n) (p := 0 + 4 + 1) (m := 8) hb (by omega) (by omega)
  have r2 := lit_rng (lo := 0) (hi := 4) (l := [0, 0, 0, 0, 1, 2, 3, 4]) (by decide) (i := (pickV (openN n) f (0 + 4 + 1) 8).toNat) (by simp only [List.length_cons, List.length_nil]; omega)
  refine ⟨c_open _ _ _, c_key _ _ _ _ hb (by omega), fun x _ => ⟨c_pick _ _ _ _ _ hb (by omega), c_pick _ _ _ _ _ hb (by omega), ⟨r1.1, by omega⟩, by omega, ⟨r2.1, by omega⟩, by omega, ⟨(_, _, _), ?_, rfl, trivial⟩⟩⟩
  have r3 := pick_rng (n := openN n) (p := 0 + 4) (m := 20) hb (by omega) (by omega)
  refine litI_of (p := fun x => -1 ≤ x ∧ x ≤ 1001) (fun y hy => ?_) (by simp only [List.length_cons, List.length_nil]; omega)
  simp only [List.mem_cons, List.not_mem_nil, or_false] at hy
  omega
def in_lNF (nn : Bool) (n : Nat) (f : Nat → Int) := (G0, res5, ([] : List (Nat × Ob)), [Item.ir ir5], start [.p false (.sl nn 1 n (PB f))] [])
theorem ev_lNF : ∀ (nn : Bool) (n : Nat) (f : Nat → Int),
  ev G0 res5 [] (3000 : Nat)
      (Or.nil.split
        (Or.callE [] (Int × Int × Int) (fun (x : Int × Int × Int) => (-1 : Int) ≤ x.snd.snd ∧ x.snd.snd ≤ (1001 : Int))
          (fun (x : Int × Int × Int) => AV.tp [AI x.fst, AI x.snd.fst, AI x.snd.snd]) (fun (x : Int × Int × Int) => [])
          fun (x : Int × Int × Int) =>
          Or.call [] (AI (noiseV x.1 x.2.1 x.2.2)) []
            (Or.call [] (AI (noiseV x.1 x.2.1 x.2.2)) []
              (Or.nil.split
                (Or.call [] (AI (noiseV x.1 x.2.1 (1 : Int))) []
                  (Or.call [] (AI (streamV x.1 x.2.1 (0 : Int))) []
                    (Or.call [] (AI (streamV x.1 x.2.1 (1 : Int))) []
                      (((Or.call [] (AB true) [] Or.nil.lit).split Or.nil.lit).lit.lit.lit.split
                        (((Or.call [] (AB true) [] Or.nil.lit).split Or.nil.lit).split Or.nil).lit.lit))))))))
      [Item.ir ir5] (start [AV.p false (PV.sl nn (1 : Nat) n (PB f))] []) =
    VC.split (decide ((1048576 : Int) < (↑n : Int))) (VC.doneP (AV.p true (PV.v (Value.bool true))))
      (VC.callE (Int × Int × Int) (21 : Nat) [AV.p false (PV.sl nn (1 : Nat) n (PB f))] []
        (fun (x : Int × Int × Int) => (-1 : Int) ≤ x.snd.snd ∧ x.snd.snd ≤ (1001 : Int))
        (fun (x : Int × Int × Int) => AV.tp [AI x.fst, AI x.snd.fst, AI x.snd.snd]) (fun (x : Int × Int × Int) => [])
        fun (x : Int × Int × Int) =>
        VC.call (22 : Nat)
          [AV.p true (PV.v (Value.int IntKind.i64 x.1)), AV.p true (PV.v (Value.int IntKind.i64 x.2.1)),
            AV.p true (PV.v (Value.int IntKind.i64 x.2.2))]
          [] (AI (noiseV x.1 x.2.1 x.2.2)) []
          (VC.call (23 : Nat)
            [AV.p true (PV.v (Value.int IntKind.i64 x.1)), AV.p true (PV.v (Value.int IntKind.i64 x.2.1)),
              AV.p true (PV.v (Value.int IntKind.i64 x.2.2))]
            [] (AI (noiseV x.1 x.2.1 x.2.2)) []
            (VC.split (noiseV x.1 x.2.1 x.2.2 != noiseV x.1 x.2.1 x.2.2)
              (VC.doneP (AV.p true (PV.v (Value.bool false))))
              (VC.call (22 : Nat)
                [AV.p true (PV.v (Value.int IntKind.i64 x.1)), AV.p true (PV.v (Value.int IntKind.i64 x.2.1)),
                  AV.p true (PV.v (Value.int IntKind.i64 (1 : Int)))]
                [] (AI (noiseV x.1 x.2.1 (1 : Int))) []
                (VC.call (24 : Nat)
                  [AV.p true (PV.v (Value.int IntKind.i64 x.1)), AV.p true (PV.v (Value.int IntKind.i64 x.2.1)),
                    AV.p true (PV.v (Value.int IntKind.i64 (0 : Int)))]
                  [] (AI (streamV x.1 x.2.1 (0 : Int))) []
                  (VC.call (24 : Nat)
                    [AV.p true (PV.v (Value.int IntKind.i64 x.1)), AV.p true (PV.v (Value.int IntKind.i64 x.2.1)),
                      AV.p true (PV.v (Value.int IntKind.i64 (1 : Int)))]
                    [] (AI (streamV x.1 x.2.1 (1 : Int))) []
                    (VC.split (decide (streamV x.1 x.2.1 (0 : Int) < (0 : Int)))
                      (VC.split (noiseV x.1 x.2.1 (1 : Int) == (0 : Int))
                        (VC.call (17 : Nat) [] [] (AB true) [] (VC.doneP (AV.p true (PV.v (Value.bool true)))))
                        (VC.doneP (AV.p true (PV.v (Value.bool false)))))
                      (VC.split (decide (streamV x.1 x.2.1 (1 : Int) < (0 : Int)))
                        (VC.split (noiseV x.1 x.2.1 (1 : Int) == (0 : Int))
                          (VC.call (17 : Nat) [] [] (AB true) [] (VC.doneP (AV.p true (PV.v (Value.bool true)))))
                          (VC.doneP (AV.p true (PV.v (Value.bool false)))))
                        (VC.need ((2 : Int) ≠ (0 : Int))
                          (VC.need ((2 : Int) ≠ (0 : Int))
                            (VC.doneP
                              (AV.p true
                                (PV.v
                                  (Value.bool
                                    (noiseV x.1 x.2.1 (1 : Int) ==
                                      IntKind.i64.wrap
                                        ((streamV x.1 x.2.1 (0 : Int)).tmod (2 : Int) -
                                          (streamV x.1 x.2.1 (1 : Int)).tmod (2 : Int))))))))))))))))) := by
  intros; kernel_rfl
def in_lNO (nn : Bool) (n : Nat) (f : Nat → Int) := (G0, res6, ([] : List (Nat × Ob)), [Item.ir ir6], start [.p false (.sl nn 1 n (PB f))] [])
theorem ev_lNO : ∀ (nn : Bool) (n : Nat) (f : Nat → Int),
  ev G0 res6 [] (3000 : Nat)
      (Or.nil.split
        (Or.callE [] (Int × Int × Int) (fun (x : Int × Int × Int) => (-1 : Int) ≤ x.snd.snd ∧ x.snd.snd ≤ (1001 : Int))
          (fun (x : Int × Int × Int) => AV.tp [AI x.fst, AI x.snd.fst, AI x.snd.snd]) (fun (x : Int × Int × Int) => [])
          fun (x : Int × Int × Int) =>
          Or.call [] (AI (noiseV x.1 x.2.1 x.2.2)) []
            (Or.call [] (AI (noiseV x.1 x.2.1 x.2.2)) []
              (Or.nil.split
                (((Or.call [] (AI (noiseV x.1 x.2.1 (0 : Int))) []
                                                ((Or.call [] (AB true) [] Or.nil.lit).split
                                                      Or.nil.lit).lit.lit).lit.lit.lit.lit.lit.lit.lit.lit.lit.split
                          (((Or.call [] (AI (noiseV x.1 x.2.1 (0 : Int))) []
                                                          ((Or.call [] (AB true) [] Or.nil.lit).split
                                                                Or.nil.lit).lit.lit).lit.lit.split
                                                  Or.nil.lit.lit.lit.lit.lit.lit).lit.lit.lit.lit.lit.split
                                    Or.nil.lit.lit.lit.lit.lit.lit.lit.lit.lit.lit.lit.lit).lit.lit.lit.lit).lit.lit.split
                  (((Or.call [] (AI (noiseV x.1 x.2.1 (0 : Int))) []
                                                        ((Or.call [] (AB true) [] Or.nil.lit).split
                                                              Or.nil.lit).lit.lit).lit.lit.split
                                                Or.nil.lit.lit.lit.lit.lit.lit).lit.lit.lit.lit.lit.split
                                  Or.nil.lit.lit.lit.lit.lit.lit.lit.lit.lit.lit.lit.lit).lit.lit.lit.lit.lit.lit.lit)))))
      [Item.ir ir6] (start [AV.p false (PV.sl nn (1 : Nat) n (PB f))] []) =
    VC.split (decide ((1048576 : Int) < (↑n : Int))) (VC.doneP (AV.p true (PV.v (Value.bool true))))
      (VC.callE (Int × Int × Int) (21 : Nat) [AV.p false (PV.sl nn (1 : Nat) n (PB f))] []
        (fun (x : Int × Int × Int) => (-1 : Int) ≤ x.snd.snd ∧ x.snd.snd ≤ (1001 : Int))
        (fun (x : Int × Int × Int) => AV.tp [AI x.fst, AI x.snd.fst, AI x.snd.snd]) (fun (x : Int × Int × Int) => [])
        fun (x : Int × Int × Int) =>
        VC.call (22 : Nat)
          [AV.p true (PV.v (Value.int IntKind.i64 x.1)), AV.p true (PV.v (Value.int IntKind.i64 x.2.1)),
            AV.p true (PV.v (Value.int IntKind.i64 x.2.2))]
          [] (AI (noiseV x.1 x.2.1 x.2.2)) []
          (VC.call (23 : Nat)
            [AV.p true (PV.v (Value.int IntKind.i64 x.1)), AV.p true (PV.v (Value.int IntKind.i64 x.2.1)),
              AV.p true (PV.v (Value.int IntKind.i64 x.2.2))]
            [] (AI (noiseV x.1 x.2.1 x.2.2)) []
            (VC.split (noiseV x.1 x.2.1 x.2.2 != noiseV x.1 x.2.1 x.2.2)
              (VC.doneP (AV.p true (PV.v (Value.bool false))))
              (VC.split (decide (x.2.2 < (0 : Int)))
                (VC.split (noiseV x.1 x.2.1 x.2.2 == (0 : Int))
                  (VC.call (22 : Nat)
                    [AV.p true (PV.v (Value.int IntKind.i64 x.1)), AV.p true (PV.v (Value.int IntKind.i64 x.2.1)),
                      AV.p true (PV.v (Value.int IntKind.i64 (0 : Int)))]
                    [] (AI (noiseV x.1 x.2.1 (0 : Int))) []
                    (VC.split (noiseV x.1 x.2.1 (0 : Int) == (0 : Int))
                      (VC.call (17 : Nat) [] [] (AB true) [] (VC.doneP (AV.p true (PV.v (Value.bool true)))))
                      (VC.doneP (AV.p true (PV.v (Value.bool false))))))
                  (VC.split (decide (IntKind.i64.wrap ((0 : Int) - x.2.2) ≤ noiseV x.1 x.2.1 x.2.2))
                    (VC.split (decide (noiseV x.1 x.2.1 x.2.2 ≤ x.2.2))
                      (VC.call (22 : Nat)
                        [AV.p true (PV.v (Value.int IntKind.i64 x.1)), AV.p true (PV.v (Value.int IntKind.i64 x.2.1)),
                          AV.p true (PV.v (Value.int IntKind.i64 (0 : Int)))]
                        [] (AI (noiseV x.1 x.2.1 (0 : Int))) []
                        (VC.split (noiseV x.1 x.2.1 (0 : Int) == (0 : Int))
                          (VC.call (17 : Nat) [] [] (AB true) [] (VC.doneP (AV.p true (PV.v (Value.bool true)))))
                          (VC.doneP (AV.p true (PV.v (Value.bool false))))))
                      (VC.doneP (AV.p true (PV.v (Value.bool false)))))
                    (VC.doneP (AV.p true (PV.v (Value.bool false))))))
                (VC.split (decide (IntKind.i64.wrap ((0 : Int) - x.2.2) ≤ noiseV x.1 x.2.1 x.2.2))
                  (VC.split (decide (noiseV x.1 x.2.1 x.2.2 ≤ x.2.2))
                    (VC.call (22 : Nat)
                      [AV.p true (PV.v (Value.int IntKind.i64 x.1)), AV.p true (PV.v (Value.int IntKind.i64 x.2.1)),
                        AV.p true (PV.v (Value.int IntKind.i64 (0 : Int)))]
                      [] (AI (noiseV x.1 x.2.1 (0 : Int))) []
                      (VC.split (noiseV x.1 x.2.1 (0 : Int) == (0 : Int))
                        (VC.call (17 : Nat) [] [] (AB true) [] (VC.doneP (AV.p true (PV.v (Value.bool true)))))
                        (VC.doneP (AV.p true (PV.v (Value.bool false))))))
                    (VC.doneP (AV.p true (PV.v (Value.bool false)))))
                  (VC.doneP (AV.p true (PV.v (Value.bool false))))))))) := by
  intros; kernel_rfl
theorem noise_zero {x y : Int} : noiseV x y 0 = 0 := by
  unfold noiseV
  split
  · simp
  · rfl
theorem noise_none {x y z : Int} (h : (keyB x && numB y && inB z 0 1000) = false) : noiseV x y z = 0 := by simp [noiseV, h]
theorem c_lNO (nn : Bool) (n : Nat) (f : Nat → Int) (hb : Bytes f) : PRet Tryd.prog G0 6 [.p false (.sl nn 1 n (PB f))] (AB true) := by
  refine PRet.by chk6 (ev_lNO nn n f) ?_
  simp only [VC.holds_split, VC.holds_need, VC.holds_doneP, VC.holds_done, VC.holds_either, VC.holds_call, VC.holds_callE, VC.holds_lend, VC.holds_stop, VC.holds_fail, decide_eq_true_eq, decide_eq_false_iff_not, noise_zero]
  refine ⟨fun h => by simp, fun h => ⟨c_dNO nn n f hb, fun x hx => ?_⟩⟩
  have w : IntKind.i64.wrap (0 - x.2.2) = - x.2.2 := (wrap_in (by omega) (by omega)).trans (by omega)
  have key : (x.2.2 < 0 → noiseV x.1 x.2.1 x.2.2 = 0) ∧ (¬ x.2.2 < 0 → - x.2.2 ≤ noiseV x.1 x.2.1 x.2.2 ∧ noiseV x.1 x.2.1 x.2.2 ≤ x.2.2) := by
    cases h1 : (keyB x.1 && numB x.2.1 && inB x.2.2 0 1000) with
    | false => rw [noise_none h1]; omega
    | true =>
      simp only [Bool.and_eq_true] at h1
      obtain ⟨_, _, _, h2, h3⟩ := noise_val h1.1.1 h1.1.2 h1.2
      have := inB_iff.1 h1.2
      omega
  have z0 := c_imNO x.1 x.2.1 0
  rw [noise_zero] at z0
  simp only [w]
  refine ⟨c_imNO _ _ _, c_spNO _ _ _, fun h1 => by simp at h1, fun h1 => ⟨fun h2 => ⟨fun h3 => ⟨z0, fun h4 => ⟨c_alive, by simp⟩, fun h4 => by simp at h4⟩, fun h3 => ?_⟩, fun h2 => ⟨fun h3 => ⟨fun h4 => ⟨z0, fun h5 => ⟨c_alive, by simp⟩, fun h5 => by simp at h5⟩, fun h4 => ?_⟩, fun h3 => ?_⟩⟩⟩
  · rw [key.1 h2] at h3; simp at h3
  · exact absurd (key.2 h2).2 h4
  · exact absurd (key.2 h2).1 h3
theorem law_FnNoiseOf (xs : List AV) (h : Args Tryd.prog Tryd.f6.params.toList xs) : PRet Tryd.prog G0 6 xs (AB true) := by
  have hp : Tryd.f6.params.toList = [22] := by kernel_rfl
  rw [hp] at h
  obtain ⟨nn, n, f, c, cs, hb, h2, rfl, hle⟩ := args_bytes h
  cases h2
  exact (c_lNO nn n f hb).args ⟨hle, trivial⟩
theorem c_lNF (nn : Bool) (n : Nat) (f : Nat → Int) (hb : Bytes f) : PRet Tryd.prog G0 5 [.p false (.sl nn 1 n (PB f))] (AB true) := by
  refine PRet.by chk5 (ev_lNF nn n f) ?_
  simp only [VC.holds_split, VC.holds_need, VC.holds_doneP, VC.holds_done, VC.holds_either, VC.holds_call, VC.holds_callE, VC.holds_lend, VC.holds_stop, VC.holds_fail, decide_eq_true_eq, decide_eq_false_iff_not]
  refine ⟨fun h => by simp, fun h => ⟨c_dNO nn n f hb, fun x hx => ?_⟩⟩
  have key : (streamV x.1 x.2.1 0 < 0 ∨ streamV x.1 x.2.1 1 < 0 → noiseV x.1 x.2.1 1 = 0) ∧ (¬ streamV x.1 x.2.1 0 < 0 → ¬ streamV x.1 x.2.1 1 < 0 → IntKind.i64.wrap ((streamV x.1 x.2.1 0).tmod 2 - (streamV x.1 x.2.1 1).tmod 2) = noiseV x.1 x.2.1 1) := by
    cases h1 : (keyB x.1 && numB x.2.1) with
    | false =>
      have e : ∀ z, streamV x.1 x.2.1 z = -1 := fun z => by simp [streamV, h1]
      simp [noiseV, h1, e]
    | true =>
      simp only [Bool.and_eq_true] at h1
      have s0 := streamV_rng (x := x.1) (y := x.2.1) (z := 0) h1.1 h1.2 (by decide)
      have s1 := streamV_rng (x := x.1) (y := x.2.1) (z := 1) h1.1 h1.2 (by decide)
      obtain ⟨_, _, h2, _⟩ := noise_val (z := 1) h1.1 h1.2 (by decide)
      exact ⟨fun h => by omega, fun _ _ => h2⟩
  refine ⟨c_imNO _ _ _, c_spNO _ _ _, fun h1 => by simp at h1, fun h1 => ⟨c_imNO _ _ _, c_imSA _ _ _, c_imSA _ _ _, fun h2 => ⟨fun h3 => ⟨c_alive, by simp⟩, fun h3 => ?_⟩, fun h2 => ⟨fun h3 => ⟨fun h4 => ⟨c_alive, by simp⟩, fun h4 => ?_⟩, fun h3 => ⟨by omega, by omega, ?_⟩⟩⟩⟩
  · rw [key.1 (.inl h2)] at h3; simp at h3
  · rw [key.1 (.inr h3)] at h4; simp at h4
  · rw [key.2 h2 h3]; simp
theorem law_FnNoiseFair (xs : List AV) (h : Args Tryd.prog Tryd.f5.params.toList xs) : PRet Tryd.prog G0 5 xs (AB true) := by
  have hp : Tryd.f5.params.toList = [22] := by kernel_rfl
  rw [hp] at h
  obtain ⟨nn, n, f, c, cs, hb, h2, rfl, hle⟩ := args_bytes h
  cases h2
  exact (c_lNF nn n f hb).args ⟨hle, trivial⟩
end Go.Gw
