/- Tables with the same rows in any order; with no condition. -/
import Derived.Test.YtopnhnnfobbocaaDoorExSort
import Derived.KernelRfl
namespace Go.Gw
open Go Go.Proofs
set_option linter.unusedSimpArgs false
set_option linter.unusedVariables false
set_option maxRecDepth 100000
def ir95_L1 : Ir :=
  (.seq
  (.reg [] [o 14 (.bin .lss (tt 13) (tt 12))])
  (.seq
  (.cond (tt 14)
   .skip
   (.exit 0))
  (.seq
  (.block 1
   (.seq
   (.reg [15] [o 15 (.mov (tt 13)),
     o 5 (.mov (tt 15))])
   (.seq
   (.dreg [16, 17, 18, 19, 20, 21, 22, 23] [0, 0, 3, 7, 0, 0, 48, 112, 255] [(3, 1019), (7, 1023)] [o 16 (.mov (tt 0)),
     o 17 (.mov (tt 5)),
     o 18 (.idx 1 (tt 16) (tt 17)),
     o 19 (.load false 1 (tt 18)),
     o 20 (.mov (tt 1)),
     o 21 (.mov (tt 5)),
     o 22 (.idx 1 (tt 20) (tt 21)),
     o 23 (.load false 1 (tt 22)),
     o 24 (.bin .neq (tt 19) (tt 23))])
   (.cond (tt 24)
    (.seq
    (.reg [] [o 4 (.mov (cb false))])
    .ret)
    .skip))))
  (.reg [25] [o 25 (.bin .add (tt 13) (ci 1)),
    o 13 (.mov (tt 25))]))))
def ir95_T2 : Ir :=
  (.seq
  (.reg [] [o 4 (.mov (cb true))])
  .ret)
def ir95 : Ir :=
  (.seq
  (.reg [] [o 4 (.mov (cb false))])
  (.seq
  (.seq
  (.reg [6, 7, 8, 9] [o 6 (.mov (tt 0)),
    o 7 (.len (tt 6)),
    o 8 (.mov (tt 1)),
    o 9 (.len (tt 8)),
    o 10 (.bin .neq (tt 7) (tt 9))])
  (.cond (tt 10)
   (.seq
   (.reg [] [o 4 (.mov (cb false))])
   .ret)
   .skip))
  (.seq
  (.seq
  (.reg [11] [o 11 (.mov (tt 0)),
    o 12 (.len (tt 11)),
    o 13 (.mov (ci 0))])
  (.block 0
   (.loop ir95_L1)))
  ir95_T2)))
def keep95 : List Nat := [0, 1, 4, 5, 10, 12, 13, 14, 24]
def res95 : List RI := [.tmp 4]
theorem chk95 : chk Tryd.prog 95 2 keep95 = some (ir95, res95) := by kernel_rfl
def ir98_L1 : Ir :=
  (.seq
  (.seq
  (.reg [11, 12, 13] [o 11 (.mov (tt 5)),
    o 12 (.mov (tt 0)),
    o 13 (.len (tt 12)),
    o 14 (.bin .lss (tt 11) (tt 13))])
  (.cond (tt 14)
   .skip
   (.exit 0)))
  (.seq
  (.block 1
   (.seq
   (.dreg [17, 18, 19, 20, 21, 22, 23, 24] [0, 0, 3, 7, 0, 0, 48, 112, 255] [(3, 1020), (7, 1024)] [o 17 (.mov (tt 0)),
     o 18 (.mov (tt 5)),
     o 19 (.idx 1 (tt 17) (tt 18)),
     o 20 (.load false 1 (tt 19)),
     o 21 (.mov (tt 1)),
     o 22 (.mov (tt 5)),
     o 23 (.idx 1 (tt 21) (tt 22)),
     o 24 (.load false 1 (tt 23)),
     o 25 (.bin .neq (tt 20) (tt 24))])
   (.cond (tt 25)
    (.seq
    (.reg [] [o 4 (.mov (cb false))])
    .ret)
    .skip)))
  (.reg [15, 16] [o 15 (.mov (tt 5)),
    o 16 (.bin .add (tt 15) (ci 1)),
    o 5 (.mov (tt 16))])))
def ir98_T2 : Ir :=
  (.seq
  (.reg [] [o 4 (.mov (cb true))])
  .ret)
def ir98 : Ir :=
  (.seq
  (.reg [] [o 4 (.mov (cb false))])
  (.seq
  (.seq
  (.reg [6, 7, 8, 9] [o 6 (.mov (tt 0)),
    o 7 (.len (tt 6)),
    o 8 (.mov (tt 1)),
    o 9 (.len (tt 8)),
    o 10 (.bin .neq (tt 7) (tt 9))])
  (.cond (tt 10)
   (.seq
   (.reg [] [o 4 (.mov (cb false))])
   .ret)
   .skip))
  (.seq
  (.seq
  (.reg [] [o 5 (.mov (ci 0))])
  (.block 0
   (.loop ir98_L1)))
  ir98_T2)))
def keep98 : List Nat := [0, 1, 4, 5, 10, 14, 25]
def res98 : List RI := [.tmp 4]
theorem chk98 : chk Tryd.prog 98 2 keep98 = some (ir98, res98) := by kernel_rfl
def ir97_L1 : Ir :=
  (.seq
  (.reg [] [o 14 (.bin .lss (tt 13) (tt 12))])
  (.seq
  (.cond (tt 14)
   .skip
   (.exit 0))
  (.seq
  (.block 1
   (.seq
   (.reg [15] [o 15 (.mov (tt 13)),
     o 5 (.mov (tt 15))])
   (.seq
   (.dreg [16, 17, 18, 19, 20, 21, 22, 23] [0, 0, 3, 7, 0, 0, 48, 112, 255] [(3, 1019), (7, 1023)] [o 16 (.mov (tt 0)),
     o 17 (.mov (tt 5)),
     o 18 (.idx 1 (tt 16) (tt 17)),
     o 19 (.load false 1 (tt 18)),
     o 20 (.mov (tt 1)),
     o 21 (.mov (tt 5)),
     o 22 (.idx 1 (tt 20) (tt 21)),
     o 23 (.load false 1 (tt 22)),
     o 24 (.bin .neq (tt 19) (tt 23))])
   (.cond (tt 24)
    (.seq
    (.reg [] [o 4 (.mov (cb false))])
    .ret)
    .skip))))
  (.reg [25] [o 25 (.bin .add (tt 13) (ci 1)),
    o 13 (.mov (tt 25))]))))
def ir97_T2 : Ir :=
  (.seq
  (.reg [] [o 4 (.mov (cb true))])
  .ret)
def ir97 : Ir :=
  (.seq
  (.reg [] [o 4 (.mov (cb false))])
  (.seq
  (.seq
  (.reg [6, 7, 8, 9] [o 6 (.mov (tt 0)),
    o 7 (.len (tt 6)),
    o 8 (.mov (tt 1)),
    o 9 (.len (tt 8)),
    o 10 (.bin .neq (tt 7) (tt 9))])
  (.cond (tt 10)
   (.seq
   (.reg [] [o 4 (.mov (cb false))])
   .ret)
   .skip))
  (.seq
  (.seq
  (.reg [11] [o 11 (.mov (tt 0)),
    o 12 (.len (tt 11)),
    o 13 (.mov (ci 0))])
  (.block 0
   (.loop ir97_L1)))
  ir97_T2)))
def keep97 : List Nat := [0, 1, 4, 5, 10, 12, 13, 14, 24]
def res97 : List RI := [.tmp 4]
theorem chk97 : chk Tryd.prog 97 2 keep97 = some (ir97, res97) := by kernel_rfl
def ir96_L1 : Ir :=
  (.seq
  (.reg [] [o 18 (.bin .lss (tt 17) (tt 16))])
  (.seq
  (.cond (tt 18)
   .skip
   (.exit 0))
  (.seq
  (.block 1
   (.seq
   (.reg [19, 20, 21] [o 19 (.mov (tt 17)),
     o 20 (.idx 1 (tt 15) (tt 17)),
     o 21 (.load false 1 (tt 20)),
     o 7 (.mov (tt 19)),
     o 8 (.mov (tt 21))])
   (.seq
   (.reg [22, 23, 24, 25] [o 22 (.mov (tt 1)),
     o 23 (.mov (tt 7)),
     o 24 (.idx 1 (tt 22) (tt 23)),
     o 25 (.load false 1 (tt 24)),
     o 9 (.mov (tt 25))])
   (.seq
   (.reg [26, 27, 28, 29] [o 26 (.mov (tt 2)),
     o 27 (.mov (tt 8)),
     o 28 (.mov (tt 9)),
     o 29 (.callv (tt 26) [(tt 27), (tt 28)]),
     o 30 (.un .not (tt 29))])
   (.cond (tt 30)
    (.seq
    (.reg [] [o 6 (.mov (cb false))])
    .ret)
    .skip)))))
  (.reg [31] [o 31 (.bin .add (tt 17) (ci 1)),
    o 17 (.mov (tt 31))]))))
def ir96_T2 : Ir :=
  (.seq
  (.reg [] [o 6 (.mov (cb true))])
  .ret)
def ir96 : Ir :=
  (.seq
  (.reg [] [o 6 (.mov (cb false))])
  (.seq
  (.seq
  (.reg [10, 11, 12, 13] [o 10 (.mov (tt 0)),
    o 11 (.len (tt 10)),
    o 12 (.mov (tt 1)),
    o 13 (.len (tt 12)),
    o 14 (.bin .neq (tt 11) (tt 13))])
  (.cond (tt 14)
   (.seq
   (.reg [] [o 6 (.mov (cb false))])
   .ret)
   .skip))
  (.seq
  (.seq
  (.reg [] [o 15 (.mov (tt 0)),
    o 16 (.len (tt 15)),
    o 17 (.mov (ci 0))])
  (.block 0
   (.loop ir96_L1)))
  ir96_T2)))
def keep96 : List Nat := [0, 1, 2, 6, 7, 8, 9, 14, 15, 16, 17, 18, 30]
def res96 : List RI := [.tmp 6]
theorem chk96 : chk Tryd.prog 96 3 keep96 = some (ir96, res96) := by kernel_rfl
def ir99_L1 : Ir :=
  (.seq
  (.seq
  (.reg [11, 12, 13] [o 11 (.mov (tt 5)),
    o 12 (.mov (tt 0)),
    o 13 (.len (tt 12)),
    o 14 (.bin .lss (tt 11) (tt 13))])
  (.cond (tt 14)
   .skip
   (.exit 0)))
  (.seq
  (.block 1
   (.seq
   (.dreg [17, 18, 19, 20, 21, 22, 23, 24, 25, 26, 27, 28, 29, 30, 31, 32, 33, 34, 35] [0, 0, 3, 7, 0, 0, 48, 112, 255, 511, 1023, 1023, 4095, 8191, 1023, 1023, 50175, 115711, 262143, 524287] [(3, 1020), (7, 1024), (8, 1025), (8, 2025), (8, 3025), (8, 4025), (8, 5025), (8, 6025), (8, 7025), (8, 8025), (13, 1030), (17, 1034), (18, 1035), (18, 2035), (18, 3035), (18, 4035), (18, 5035), (18, 6035), (18, 7035), (18, 8035)] [o 17 (.mov (tt 0)),
     o 18 (.mov (tt 5)),
     o 19 (.idx 1 (tt 17) (tt 18)),
     o 20 (.load false 1 (tt 19)),
     o 21 (.mov (tt 1)),
     o 22 (.mov (tt 5)),
     o 23 (.idx 1 (tt 21) (tt 22)),
     o 24 (.load false 1 (tt 23)),
     o 25 (.call 93 [(tt 20), (tt 24)]),
     o 26 (.mov (tt 25)),
     og 27 26 false (.mov (tt 1)),
     og 28 26 false (.mov (tt 5)),
     og 29 26 false (.idx 1 (tt 27) (tt 28)),
     og 30 26 false (.load false 1 (tt 29)),
     og 31 26 false (.mov (tt 0)),
     og 32 26 false (.mov (tt 5)),
     og 33 26 false (.idx 1 (tt 31) (tt 32)),
     og 34 26 false (.load false 1 (tt 33)),
     og 35 26 false (.call 93 [(tt 30), (tt 34)]),
     o 36 (.pick (tt 26) (cb true) (tt 35))])
   (.cond (tt 36)
    (.seq
    (.reg [] [o 4 (.mov (cb false))])
    .ret)
    .skip)))
  (.reg [15, 16] [o 15 (.mov (tt 5)),
    o 16 (.bin .add (tt 15) (ci 1)),
    o 5 (.mov (tt 16))])))
def ir99_T2 : Ir :=
  (.seq
  (.reg [] [o 4 (.mov (cb true))])
  .ret)
def ir99 : Ir :=
  (.seq
  (.reg [] [o 4 (.mov (cb false))])
  (.seq
  (.seq
  (.reg [6, 7, 8, 9] [o 6 (.mov (tt 0)),
    o 7 (.len (tt 6)),
    o 8 (.mov (tt 1)),
    o 9 (.len (tt 8)),
    o 10 (.bin .neq (tt 7) (tt 9))])
  (.cond (tt 10)
   (.seq
   (.reg [] [o 4 (.mov (cb false))])
   .ret)
   .skip))
  (.seq
  (.seq
  (.reg [] [o 5 (.mov (ci 0))])
  (.block 0
   (.loop ir99_L1)))
  ir99_T2)))
def keep99 : List Nat := [0, 1, 4, 5, 10, 14, 36]
def res99 : List RI := [.tmp 4]
theorem chk99 : chk Tryd.prog 99 2 keep99 = some (ir99, res99) := by kernel_rfl
def ir34 : Ir :=
  (.seq
  (.reg [] [o 2 (.box 2 (tt 0)),
    o 3 (.box 2 (tt 1)),
    o 4 (.mov (cb false))])
  (.seq
  (.seq
  (.reg [5, 6, 7, 8, 9, 10, 11, 12, 13, 14, 15, 16, 17, 18, 19] [o 5 (.load true 2 (tt 2)),
    o 6 (.call 37 [(tt 5)]),
    o 7 (.un .not (tt 6)),
    o 8 (.mov (tt 7)),
    og 9 8 false (.load true 2 (tt 3)),
    og 10 8 false (.call 37 [(tt 9)]),
    og 11 8 false (.un .not (tt 10)),
    o 12 (.pick (tt 8) (cb true) (tt 11)),
    o 13 (.mov (tt 12)),
    og 14 13 false (.fadr 0 (tt 2)),
    og 15 13 false (.load false 1 (tt 14)),
    og 16 13 false (.fadr 0 (tt 3)),
    og 17 13 false (.load false 1 (tt 16)),
    og 18 13 false (.call 95 [(tt 15), (tt 17)]),
    og 19 13 false (.un .not (tt 18)),
    o 20 (.pick (tt 13) (cb true) (tt 19))])
  (.cond (tt 20)
   (.seq
   (.reg [] [o 4 (.mov (cb false))])
   .ret)
   .skip))
  (.seq
  (.dreg [21, 22, 23, 24, 25, 26, 27] [0, 1, 3, 0, 11, 27, 63, 127] [(0, 1021), (0, 2021), (1, 1022), (1, 2022), (1, 3022), (1, 4022), (1, 5022), (1, 6022), (1, 7022), (1, 8022), (3, 1024), (3, 2024), (4, 1025), (4, 2025), (4, 3025), (4, 4025), (4, 5025), (4, 6025), (4, 7025), (4, 8025), (6, 1027), (6, 2027), (6, 3027), (6, 4027), (6, 5027), (6, 6027), (6, 7027), (6, 8027)] [o 21 (.load true 2 (tt 2)),
    o 22 (.call 30 [(tt 21)]),
    o 23 (.fval false 1 1 (tt 22)),
    o 24 (.load true 2 (tt 3)),
    o 25 (.call 30 [(tt 24)]),
    o 26 (.fval false 1 1 (tt 25)),
    o 27 (.call 96 [(tt 23), (tt 26), (.func 97)]),
    o 4 (.mov (tt 27))])
  .ret)))
def keep34 : List Nat := [0, 1, 2, 3, 4, 20]
def res34 : List RI := [.tmp 4]
theorem chk34 : chk Tryd.prog 34 2 keep34 = some (ir34, res34) := by kernel_rfl
def ir36 : Ir :=
  (.seq
  (.reg [] [o 2 (.box 2 (tt 0)),
    o 3 (.box 2 (tt 1)),
    o 4 (.mov (cb false))])
  (.seq
  (.dreg [5, 6, 7, 8, 9, 10, 11, 12, 13, 14, 15, 16, 17, 18, 19, 20, 21, 22, 23, 24, 25, 26] [0, 1, 3, 7, 15, 31, 63, 127, 255, 127, 639, 2047, 4095, 8191, 16383, 32767, 65535, 16383, 196607, 458751, 1048575, 2097151, 4194303] [(0, 1005), (0, 2005), (1, 1006), (1, 2006), (1, 3006), (1, 4006), (1, 5006), (1, 6006), (1, 7006), (1, 8006), (3, 1008), (3, 2008), (4, 1009), (4, 2009), (4, 3009), (4, 4009), (4, 5009), (4, 6009), (4, 7009), (4, 8009), (8, 1013), (10, 1015), (11, 1016), (11, 2016), (11, 3016), (11, 4016), (11, 5016), (11, 6016), (11, 7016), (11, 8016), (14, 1019), (14, 2019), (15, 1020), (15, 2020), (15, 3020), (15, 4020), (15, 5020), (15, 6020), (15, 7020), (15, 8020), (17, 1022), (17, 2022), (18, 1023), (18, 2023), (18, 3023), (18, 4023), (18, 5023), (18, 6023), (18, 7023), (18, 8023), (20, 1025), (20, 2025), (20, 3025), (20, 4025), (20, 5025), (20, 6025), (20, 7025), (20, 8025)] [o 5 (.load true 2 (tt 2)),
    o 6 (.call 33 [(tt 5)]),
    o 7 (.mov (tt 6)),
    og 8 7 true (.load true 2 (tt 3)),
    og 9 7 true (.call 33 [(tt 8)]),
    o 10 (.pick (tt 7) (tt 9) (cb false)),
    o 11 (.mov (tt 10)),
    og 12 11 true (.fadr 0 (tt 2)),
    og 13 11 true (.load false 1 (tt 12)),
    og 14 11 true (.fadr 0 (tt 3)),
    og 15 11 true (.load false 1 (tt 14)),
    og 16 11 true (.call 98 [(tt 13), (tt 15)]),
    o 17 (.pick (tt 11) (tt 16) (cb false)),
    o 18 (.mov (tt 17)),
    og 19 18 true (.load true 2 (tt 2)),
    og 20 18 true (.call 32 [(tt 19)]),
    og 21 18 true (.fval false 1 1 (tt 20)),
    og 22 18 true (.load true 2 (tt 3)),
    og 23 18 true (.call 32 [(tt 22)]),
    og 24 18 true (.fval false 1 1 (tt 23)),
    og 25 18 true (.call 99 [(tt 21), (tt 24)]),
    o 26 (.pick (tt 18) (tt 25) (cb false)),
    o 4 (.mov (tt 26))])
  .ret))
def keep36 : List Nat := [0, 1, 2, 3, 4]
def res36 : List RI := [.tmp 4]
theorem chk36 : chk Tryd.prog 36 2 keep36 = some (ir36, res36) := by kernel_rfl
def ir7 : Ir :=
  (.seq
  (.reg [] [o 2 (.box 2 (tt 0)),
    o 3 (.box 2 (tt 1)),
    o 4 (.mov (cb false))])
  (.seq
  (.reg [] [o 5 (.mov (ci 1048576))])
  (.seq
  (.reg [10, 11, 12] [o 10 (.load true 2 (tt 2)),
    o 11 (.mov (tt 5)),
    o 12 (.call 38 [(tt 10), (tt 11)]),
    o 5 (.mov (tt 12))])
  (.seq
  (.seq
  (.reg [13] [o 13 (.mov (tt 5)),
    o 14 (.bin .lss (tt 13) (ci 0))])
  (.cond (tt 14)
   (.seq
   (.reg [] [o 4 (.mov (cb true))])
   .ret)
   .skip))
  (.seq
  (.reg [15, 16, 17] [o 15 (.load true 2 (tt 3)),
    o 16 (.mov (tt 5)),
    o 17 (.call 38 [(tt 15), (tt 16)]),
    o 5 (.mov (tt 17))])
  (.seq
  (.seq
  (.reg [18] [o 18 (.mov (tt 5)),
    o 19 (.bin .lss (tt 18) (ci 0))])
  (.cond (tt 19)
   (.seq
   (.reg [] [o 4 (.mov (cb true))])
   .ret)
   .skip))
  (.seq
  (.dreg [20, 21, 22, 23, 24] [0, 1, 0, 7, 15, 31] [(0, 1020), (0, 2020), (1, 1021), (1, 2021), (1, 3021), (1, 4021), (1, 5021), (1, 6021), (1, 7021), (1, 8021), (2, 1022), (2, 2022), (3, 1023), (3, 2023), (3, 3023), (3, 4023), (3, 5023), (3, 6023), (3, 7023), (3, 8023), (4, 1024), (4, 2024), (4, 3024), (4, 4024), (4, 5024), (4, 6024), (4, 7024), (4, 8024)] [o 20 (.load true 2 (tt 2)),
    o 21 (.call 39 [(tt 20)]),
    o 22 (.load true 2 (tt 3)),
    o 23 (.call 39 [(tt 22)]),
    o 24 (.call 36 [(tt 21), (tt 23)]),
    o 6 (.mov (tt 24))])
  (.seq
  (.reg [25, 26] [o 25 (.load true 2 (tt 2)),
    o 26 (.call 39 [(tt 25)]),
    o 7 (.alloc [(.slice none 0 0), (.slice none 0 0)]),
    on (.store 2 (tt 7) (tt 26))])
  (.seq
  (.reg [27, 28] [o 27 (.load true 2 (tt 3)),
    o 28 (.call 39 [(tt 27)]),
    o 8 (.alloc [(.slice none 0 0), (.slice none 0 0)]),
    on (.store 2 (tt 8) (tt 28))])
  (.seq
  (.reg [29, 30, 31] [o 29 (.load true 2 (tt 7)),
    o 30 (.load true 2 (tt 8)),
    o 31 (.call 34 [(tt 29), (tt 30)]),
    o 9 (.mov (tt 31))])
  (.seq
  (.seq
  (.reg [32, 33] [o 32 (.mov (tt 9)),
    o 33 (.mov (tt 6)),
    o 34 (.binB .neq (tt 32) (tt 33))])
  (.cond (tt 34)
   (.seq
   (.reg [] [o 4 (.mov (cb false))])
   .ret)
   .skip))
  (.seq
  (.seq
  (.dreg [35, 36, 37, 38] [0, 0, 2, 7, 15] [(0, 1035), (0, 2035), (1, 1036), (1, 2036), (2, 1037), (2, 2037), (2, 3037), (2, 4037), (2, 5037), (2, 6037), (2, 7037), (2, 8037), (3, 1038), (3, 2038), (3, 3038), (3, 4038), (3, 5038), (3, 6038), (3, 7038), (3, 8038)] [o 35 (.load true 2 (tt 7)),
    o 36 (.load true 2 (tt 2)),
    o 37 (.call 39 [(tt 36)]),
    o 38 (.call 24 [(tt 35), (tt 37)]),
    o 39 (.un .not (tt 38))])
  (.cond (tt 39)
   (.seq
   (.reg [] [o 4 (.mov (cb false))])
   .ret)
   .skip))
  (.seq
  (.seq
  (.dreg [40, 41, 42, 43] [0, 0, 2, 7, 15] [(0, 1040), (0, 2040), (1, 1041), (1, 2041), (2, 1042), (2, 2042), (2, 3042), (2, 4042), (2, 5042), (2, 6042), (2, 7042), (2, 8042), (3, 1043), (3, 2043), (3, 3043), (3, 4043), (3, 5043), (3, 6043), (3, 7043), (3, 8043)] [o 40 (.load true 2 (tt 8)),
    o 41 (.load true 2 (tt 3)),
    o 42 (.call 39 [(tt 41)]),
    o 43 (.call 24 [(tt 40), (tt 42)]),
    o 44 (.un .not (tt 43))])
  (.cond (tt 44)
   (.seq
   (.reg [] [o 4 (.mov (cb false))])
   .ret)
   .skip))
  (.seq
  (.reg [] [o 4 (.mov (cb true))])
  .ret))))))))))))))
def keep7 : List Nat := [0, 1, 2, 3, 4, 5, 6, 7, 8, 9, 14, 19, 34, 39, 44]
def res7 : List RI := [.tmp 4]
theorem chk7 : chk Tryd.prog 7 2 keep7 = some (ir7, res7) := by kernel_rfl

def sameT (n : Nat) (f : Nat → ByteArray) (m : Nat) (g : Nat → ByteArray) : Bool := decide (n = m) && allB (fun i => (f i).toList == (g i).toList) n
def sameR (m : Nat) (w : Nat → Nat) (h : Nat → Nat → Int) (m' : Nat) (w' : Nat → Nat) (h' : Nat → Nat → Int) : Bool := decide (m = m') && allB (fun i => rowL (w i) (h i) 0 == rowL (w' i) (h' i) 0) m
def sameV (n : Nat) (f : Nat → Int) (m : Nat) (g : Nat → Int) : Bool := decide (n = m) && allB (fun i => f i == g i) n
theorem sameV_eq (n : Nat) (f : Nat → Int) (m : Nat) (g : Nat → Int) : sameV n f m g = (rowL n f 0 == rowL m g 0) := by
  rw [Bool.eq_iff_iff]
  simp only [sameV, Bool.and_eq_true, decide_eq_true_eq, allB_iff, beq_iff_eq]
  constructor
  · rintro ⟨rfl, h⟩; exact rowL_congr h
  · intro h
    have h1 : n = m := by have := congrArg List.length h; simpa [rowL_len] using this
    subst h1
    refine ⟨rfl, fun i hi => ?_⟩
    rw [← rowL_get (f := f) hi, h, rowL_get hi]
def in_eqTs (nn nn' : Bool) (n : Nat) (f : Nat → ByteArray) (m : Nat) (g : Nat → ByteArray) := (G0, res95, ([] : List (Nat × Ob)), [Item.ir ir95], start [TL nn n f, TL nn' m g] [])
theorem ev_eqTs : ∀ (nn nn' : Bool) (n : Nat) (f : Nat → ByteArray) (m : Nat) (g : Nat → ByteArray), ev G0 res95 [] (3000 : Nat) (Or.nil.split Or.nil) [Item.ir ir95] (start [TL nn n f, TL nn' m g] []) = VC.split ((↑n : Int) != (↑m : Int)) (VC.doneP (AV.p true (PV.v (Value.bool false)))) (VC.loop ir95_L1 [Item.bend (0 : Nat), Item.ir ir95_T2] (St.mk [((0 : Nat), AV.p false (PV.sl nn (1 : Nat) n fun (i x : Nat) => PT (f i))), ((1 : Nat), AV.p false (PV.sl nn' (1 : Nat) m fun (i x : Nat) => PT (g i))), ((4 : Nat), AV.p true (PV.v (Value.bool false))), ((10 : Nat), AV.p true (PV.v (Value.bool ((↑n : Int) != (↑m : Int))))), ((12 : Nat), AV.p true (PV.v (Value.int IntKind.i64 (↑n : Int)))), ((13 : Nat), AV.p true (PV.v (Value.int IntKind.i64 (0 : Int))))] [])) := by intros; kernel_rfl
def st_eqTs (nn nn' : Bool) (n : Nat) (f : Nat → ByteArray) (m : Nat) (g : Nat → ByteArray) (k : Nat) : St := ⟨[(0, TL nn n f), (1, TL nn' m g), (12, AI n), (13, AI k)], []⟩
def r_eqTs (nn nn' : Bool) (n : Nat) (f : Nat → ByteArray) (m : Nat) (g : Nat → ByteArray) (I : Nat → St → Prop) (k : Nat) := (G0, res95, ([] : List (Nat × Ob)), [Item.ir ir95_L1, .lend (I k), Item.bend 0, Item.ir ir95_T2], st_eqTs nn nn' n f m g k)
theorem evr_eqTs : ∀ (nn nn' : Bool) (n : Nat) (f : Nat → ByteArray) (m : Nat) (g : Nat → ByteArray) (I : Nat → St → Prop) (k : Nat), ev G0 res95 [] (3000 : Nat) ((Or.nil.split Or.nil).split Or.nil) [Item.ir ir95_L1, Item.lend (I k), Item.bend (0 : Nat), Item.ir ir95_T2] (st_eqTs nn nn' n f m g k) = VC.split (decide ((↑k : Int) < (↑n : Int))) (VC.need ((0 : Int) ≤ (↑k : Int) ∧ (↑k : Int).toNat < n) (VC.need ((0 : Int) ≤ (↑k : Int) ∧ (↑k : Int).toNat < m) (VC.split (!(f (↑k : Int).toNat).toList == (g (↑k : Int).toNat).toList) (VC.doneP (AV.p true (PV.v (Value.bool false)))) (VC.lend (I k) (St.mk [((0 : Nat), AV.p false (PV.sl nn (1 : Nat) n fun (i x : Nat) => PT (f i))), ((1 : Nat), AV.p false (PV.sl nn' (1 : Nat) m fun (i x : Nat) => PT (g i))), ((12 : Nat), AV.p true (PV.v (Value.int IntKind.i64 (↑n : Int)))), ((13 : Nat), AV.p true (PV.v (Value.int IntKind.i64 (IntKind.i64.wrap ((↑k : Int) + (1 : Int)))))), ((14 : Nat), AV.p true (PV.v (Value.bool (decide ((↑k : Int) < (↑n : Int)))))), ((5 : Nat), AV.p true (PV.v (Value.int IntKind.i64 (↑k : Int)))), ((24 : Nat), AV.p true (PV.v (Value.bool !(f (↑k : Int).toNat).toList == (g (↑k : Int).toNat).toList)))] []))))) (VC.doneP (AV.p true (PV.v (Value.bool true)))) := by intros; kernel_rfl
theorem c_eqTs (nn nn' : Bool) (n : Nat) (f : Nat → ByteArray) (m : Nat) (g : Nat → ByteArray) (hn : n ≤ 1048576) : PRet Tryd.prog G0 95 [TL nn n f, TL nn' m g] (AB (sameT n f m g)) := by
  refine PRet.by chk95 (ev_eqTs nn nn' n f m g) ?_
  simp only [VC.holds_split, VC.holds_need, VC.holds_doneP, VC.holds_done, VC.holds_either, VC.holds_call, VC.holds_callE, VC.holds_lend, VC.holds_stop, VC.holds_fail, decide_eq_true_eq, decide_eq_false_iff_not]
  refine ⟨fun h => ?_, fun h => ?_⟩
  · have : ¬ n = m := by simp at h; omega
    simp [sameT, this]
  have hnm : n = m := by simp at h; omega
  subst hnm
  refine loop_by (st_eqTs nn nn' n f n g) (fun k => k ≤ n ∧ ∀ j, j < k → ((f j).toList == (g j).toList) = true) (fun k => n - k) 0 [] [] [] (by simp) ?_ (evr_eqTs nn nn' n f n g) fun k hk => ?_
  · simp [st_eqTs, hbs, St.lowers, St.lower, stLe, leEnv, leObs, obLe, injB, pinC, AV.leC, AV.leCs, PV.leC, PV.Le_v, St.get, St.obj, look, rho, isNew, keptC, renH, Mode.ok, Mode.isZ, PV.isVal, PV.isNilSl, List.all_nil, List.all_cons, List.any_nil, List.any_cons, List.map_nil, List.map_cons, PV.Le_self]
  · obtain ⟨hk, hall⟩ := hk
    simp only [VC.holds_split, VC.holds_need, VC.holds_doneP, VC.holds_done, VC.holds_either, VC.holds_call, VC.holds_callE, VC.holds_lend, VC.holds_stop, VC.holds_fail, decide_eq_true_eq, decide_eq_false_iff_not, Int.toNat_natCast]
    refine ⟨fun h1 => ⟨by omega, by omega, fun h2 => ?_, fun h2 => Again.mk (k + 1) [] [] [] ⟨by omega, fun j hj => ?_⟩ (by omega) ?_⟩, fun h1 => ?_⟩
    · have h3 : ((f k).toList == (g k).toList) = false := by simpa using h2
      simp [sameT, allB_no (p := fun i => (f i).toList == (g i).toList) (show k < n by omega) h3]
    · by_cases h3 : j = k
      · subst h3; simpa using h2
      · exact hall j (by omega)
    · have e1 : IntKind.i64.wrap ((k : Int) + 1) = ((k + 1 : Nat) : Int) := wrap_in (by omega) (by omega)
      simp only [e1, st_eqTs]
      simp [hbs, St.lowers, St.lower, stLe, leEnv, leObs, obLe, injB, pinC, AV.leC, AV.leCs, PV.leC, PV.Le_v, St.get, St.obj, look, rho, isNew, keptC, renH, Mode.ok, Mode.isZ, PV.isVal, PV.isNilSl, List.all_nil, List.all_cons, List.any_nil, List.any_cons, List.map_nil, List.map_cons, PV.Le_self]
    · have : k = n := by omega
      subst this
      have : allB (fun i => (f i).toList == (g i).toList) k = true := allB_iff.2 hall
      simp [sameT, this]
def in_l1T (nn nn' : Bool) (n : Nat) (f : Nat → ByteArray) (m : Nat) (g : Nat → ByteArray) := (G0, res98, ([] : List (Nat × Ob)), [Item.ir ir98], start [TL nn n f, TL nn' m g] [])
theorem ev_l1T : ∀ (nn nn' : Bool) (n : Nat) (f : Nat → ByteArray) (m : Nat) (g : Nat → ByteArray), ev G0 res98 [] (3000 : Nat) (Or.nil.split Or.nil) [Item.ir ir98] (start [TL nn n f, TL nn' m g] []) = VC.split ((↑n : Int) != (↑m : Int)) (VC.doneP (AV.p true (PV.v (Value.bool false)))) (VC.loop ir98_L1 [Item.bend (0 : Nat), Item.ir ir98_T2] (St.mk [((0 : Nat), AV.p false (PV.sl nn (1 : Nat) n fun (i x : Nat) => PT (f i))), ((1 : Nat), AV.p false (PV.sl nn' (1 : Nat) m fun (i x : Nat) => PT (g i))), ((4 : Nat), AV.p true (PV.v (Value.bool false))), ((10 : Nat), AV.p true (PV.v (Value.bool ((↑n : Int) != (↑m : Int))))), ((5 : Nat), AV.p true (PV.v (Value.int IntKind.i64 (0 : Int))))] [])) := by intros; kernel_rfl
def st_l1T (nn nn' : Bool) (n : Nat) (f : Nat → ByteArray) (m : Nat) (g : Nat → ByteArray) (k : Nat) : St := ⟨[(0, TL nn n f), (1, TL nn' m g), (5, AI k)], []⟩
def r_l1T (nn nn' : Bool) (n : Nat) (f : Nat → ByteArray) (m : Nat) (g : Nat → ByteArray) (I : Nat → St → Prop) (k : Nat) := (G0, res98, ([] : List (Nat × Ob)), [Item.ir ir98_L1, .lend (I k), Item.bend 0, Item.ir ir98_T2], st_l1T nn nn' n f m g k)
theorem evr_l1T : ∀ (nn nn' : Bool) (n : Nat) (f : Nat → ByteArray) (m : Nat) (g : Nat → ByteArray) (I : Nat → St → Prop) (k : Nat), ev G0 res98 [] (3000 : Nat) ((Or.nil.split Or.nil).split Or.nil) [Item.ir ir98_L1, Item.lend (I k), Item.bend (0 : Nat), Item.ir ir98_T2] (st_l1T nn nn' n f m g k) = VC.split (decide ((↑k : Int) < (↑n : Int))) (VC.need ((0 : Int) ≤ (↑k : Int) ∧ (↑k : Int).toNat < n) (VC.need ((0 : Int) ≤ (↑k : Int) ∧ (↑k : Int).toNat < m) (VC.split (!(f (↑k : Int).toNat).toList == (g (↑k : Int).toNat).toList) (VC.doneP (AV.p true (PV.v (Value.bool false)))) (VC.lend (I k) (St.mk [((0 : Nat), AV.p false (PV.sl nn (1 : Nat) n fun (i x : Nat) => PT (f i))), ((1 : Nat), AV.p false (PV.sl nn' (1 : Nat) m fun (i x : Nat) => PT (g i))), ((5 : Nat), AV.p true (PV.v (Value.int IntKind.i64 (IntKind.i64.wrap ((↑k : Int) + (1 : Int)))))), ((14 : Nat), AV.p true (PV.v (Value.bool (decide ((↑k : Int) < (↑n : Int)))))), ((25 : Nat), AV.p true (PV.v (Value.bool !(f (↑k : Int).toNat).toList == (g (↑k : Int).toNat).toList)))] []))))) (VC.doneP (AV.p true (PV.v (Value.bool true)))) := by intros; kernel_rfl
theorem c_l1T (nn nn' : Bool) (n : Nat) (f : Nat → ByteArray) (m : Nat) (g : Nat → ByteArray) (hn : n ≤ 1048576) : PRet Tryd.prog G0 98 [TL nn n f, TL nn' m g] (AB (sameT n f m g)) := by
  refine PRet.by chk98 (ev_l1T nn nn' n f m g) ?_
  simp only [VC.holds_split, VC.holds_need, VC.holds_doneP, VC.holds_done, VC.holds_either, VC.holds_call, VC.holds_callE, VC.holds_lend, VC.holds_stop, VC.holds_fail, decide_eq_true_eq, decide_eq_false_iff_not]
  refine ⟨fun h => ?_, fun h => ?_⟩
  · have : ¬ n = m := by simp at h; omega
    simp [sameT, this]
  have hnm : n = m := by simp at h; omega
  subst hnm
  refine loop_by (st_l1T nn nn' n f n g) (fun k => k ≤ n ∧ ∀ j, j < k → ((f j).toList == (g j).toList) = true) (fun k => n - k) 0 [] [] [] (by simp) ?_ (evr_l1T nn nn' n f n g) fun k hk => ?_
  · simp [st_l1T, hbs, St.lowers, St.lower, stLe, leEnv, leObs, obLe, injB, pinC, AV.leC, AV.leCs, PV.leC, PV.Le_v, St.get, St.obj, look, rho, isNew, keptC, renH, Mode.ok, Mode.isZ, PV.isVal, PV.isNilSl, List.all_nil, List.all_cons, List.any_nil, List.any_cons, List.map_nil, List.map_cons, PV.Le_self]
  · obtain ⟨hk, hall⟩ := hk
    simp only [VC.holds_split, VC.holds_need, VC.holds_doneP, VC.holds_done, VC.holds_either, VC.holds_call, VC.holds_callE, VC.holds_lend, VC.holds_stop, VC.holds_fail, decide_eq_true_eq, decide_eq_false_iff_not, Int.toNat_natCast]
    refine ⟨fun h1 => ⟨by omega, by omega, fun h2 => ?_, fun h2 => Again.mk (k + 1) [] [] [] ⟨by omega, fun j hj => ?_⟩ (by omega) ?_⟩, fun h1 => ?_⟩
    · have h3 : ((f k).toList == (g k).toList) = false := by simpa using h2
      simp [sameT, allB_no (p := fun i => (f i).toList == (g i).toList) (show k < n by omega) h3]
    · by_cases h3 : j = k
      · subst h3; simpa using h2
      · exact hall j (by omega)
    · have e1 : IntKind.i64.wrap ((k : Int) + 1) = ((k + 1 : Nat) : Int) := wrap_in (by omega) (by omega)
      simp only [e1, st_l1T]
      simp [hbs, St.lowers, St.lower, stLe, leEnv, leObs, obLe, injB, pinC, AV.leC, AV.leCs, PV.leC, PV.Le_v, St.get, St.obj, look, rho, isNew, keptC, renH, Mode.ok, Mode.isZ, PV.isVal, PV.isNilSl, List.all_nil, List.all_cons, List.any_nil, List.any_cons, List.map_nil, List.map_cons, PV.Le_self]
    · have : k = n := by omega
      subst this
      have : allB (fun i => (f i).toList == (g i).toList) k = true := allB_iff.2 hall
      simp [sameT, this]
def in_eqIs (nn nn' : Bool) (n : Nat) (f : Nat → Int) (m : Nat) (g : Nat → Int) := (G0, res97, ([] : List (Nat × Ob)), [Item.ir ir97], start [IL nn n f, IL nn' m g] [])
theorem ev_eqIs : ∀ (nn nn' : Bool) (n : Nat) (f : Nat → Int) (m : Nat) (g : Nat → Int), ev G0 res97 [] (3000 : Nat) (Or.nil.split Or.nil) [Item.ir ir97] (start [IL nn n f, IL nn' m g] []) = VC.split ((↑n : Int) != (↑m : Int)) (VC.doneP (AV.p true (PV.v (Value.bool false)))) (VC.loop ir97_L1 [Item.bend (0 : Nat), Item.ir ir97_T2] (St.mk [((0 : Nat), AV.p false (PV.sl nn (1 : Nat) n fun (i x : Nat) => PI (f i))), ((1 : Nat), AV.p false (PV.sl nn' (1 : Nat) m fun (i x : Nat) => PI (g i))), ((4 : Nat), AV.p true (PV.v (Value.bool false))), ((10 : Nat), AV.p true (PV.v (Value.bool ((↑n : Int) != (↑m : Int))))), ((12 : Nat), AV.p true (PV.v (Value.int IntKind.i64 (↑n : Int)))), ((13 : Nat), AV.p true (PV.v (Value.int IntKind.i64 (0 : Int))))] [])) := by intros; kernel_rfl
def st_eqIs (nn nn' : Bool) (n : Nat) (f : Nat → Int) (m : Nat) (g : Nat → Int) (k : Nat) : St := ⟨[(0, IL nn n f), (1, IL nn' m g), (12, AI n), (13, AI k)], []⟩
def r_eqIs (nn nn' : Bool) (n : Nat) (f : Nat → Int) (m : Nat) (g : Nat → Int) (I : Nat → St → Prop) (k : Nat) := (G0, res97, ([] : List (Nat × Ob)), [Item.ir ir97_L1, .lend (I k), Item.bend 0, Item.ir ir97_T2], st_eqIs nn nn' n f m g k)
theorem evr_eqIs : ∀ (nn nn' : Bool) (n : Nat) (f : Nat → Int) (m : Nat) (g : Nat → Int) (I : Nat → St → Prop) (k : Nat), ev G0 res97 [] (3000 : Nat) ((Or.nil.split Or.nil).split Or.nil) [Item.ir ir97_L1, Item.lend (I k), Item.bend (0 : Nat), Item.ir ir97_T2] (st_eqIs nn nn' n f m g k) = VC.split (decide ((↑k : Int) < (↑n : Int))) (VC.need ((0 : Int) ≤ (↑k : Int) ∧ (↑k : Int).toNat < n) (VC.need ((0 : Int) ≤ (↑k : Int) ∧ (↑k : Int).toNat < m) (VC.split (f (↑k : Int).toNat != g (↑k : Int).toNat) (VC.doneP (AV.p true (PV.v (Value.bool false)))) (VC.lend (I k) (St.mk [((0 : Nat), AV.p false (PV.sl nn (1 : Nat) n fun (i x : Nat) => PI (f i))), ((1 : Nat), AV.p false (PV.sl nn' (1 : Nat) m fun (i x : Nat) => PI (g i))), ((12 : Nat), AV.p true (PV.v (Value.int IntKind.i64 (↑n : Int)))), ((13 : Nat), AV.p true (PV.v (Value.int IntKind.i64 (IntKind.i64.wrap ((↑k : Int) + (1 : Int)))))), ((14 : Nat), AV.p true (PV.v (Value.bool (decide ((↑k : Int) < (↑n : Int)))))), ((5 : Nat), AV.p true (PV.v (Value.int IntKind.i64 (↑k : Int)))), ((24 : Nat), AV.p true (PV.v (Value.bool (f (↑k : Int).toNat != g (↑k : Int).toNat))))] []))))) (VC.doneP (AV.p true (PV.v (Value.bool true)))) := by intros; kernel_rfl
theorem c_eqIs (nn nn' : Bool) (n : Nat) (f : Nat → Int) (m : Nat) (g : Nat → Int) (hn : n ≤ 1048576) : PRet Tryd.prog G0 97 [IL nn n f, IL nn' m g] (AB (rowL n f 0 == rowL m g 0)) := by
  rw [← sameV_eq]
  refine PRet.by chk97 (ev_eqIs nn nn' n f m g) ?_
  simp only [VC.holds_split, VC.holds_need, VC.holds_doneP, VC.holds_done, VC.holds_either, VC.holds_call, VC.holds_callE, VC.holds_lend, VC.holds_stop, VC.holds_fail, decide_eq_true_eq, decide_eq_false_iff_not]
  refine ⟨fun h => ?_, fun h => ?_⟩
  · have : ¬ n = m := by simp at h; omega
    simp [sameV, this]
  have hnm : n = m := by simp at h; omega
  subst hnm
  refine loop_by (st_eqIs nn nn' n f n g) (fun k => k ≤ n ∧ ∀ j, j < k → (f j == g j) = true) (fun k => n - k) 0 [] [] [] (by simp) ?_ (evr_eqIs nn nn' n f n g) fun k hk => ?_
  · simp [st_eqIs, hbs, St.lowers, St.lower, stLe, leEnv, leObs, obLe, injB, pinC, AV.leC, AV.leCs, PV.leC, PV.Le_v, St.get, St.obj, look, rho, isNew, keptC, renH, Mode.ok, Mode.isZ, PV.isVal, PV.isNilSl, List.all_nil, List.all_cons, List.any_nil, List.any_cons, List.map_nil, List.map_cons, PV.Le_self]
  · obtain ⟨hk, hall⟩ := hk
    simp only [VC.holds_split, VC.holds_need, VC.holds_doneP, VC.holds_done, VC.holds_either, VC.holds_call, VC.holds_callE, VC.holds_lend, VC.holds_stop, VC.holds_fail, decide_eq_true_eq, decide_eq_false_iff_not, Int.toNat_natCast]
    refine ⟨fun h1 => ⟨by omega, by omega, fun h2 => ?_, fun h2 => Again.mk (k + 1) [] [] [] ⟨by omega, fun j hj => ?_⟩ (by omega) ?_⟩, fun h1 => ?_⟩
    · have h3 : (f k == g k) = false := by simpa using h2
      simp [sameV, allB_no (p := fun i => f i == g i) (show k < n by omega) h3]
    · by_cases h3 : j = k
      · subst h3; simpa using h2
      · exact hall j (by omega)
    · have e1 : IntKind.i64.wrap ((k : Int) + 1) = ((k + 1 : Nat) : Int) := wrap_in (by omega) (by omega)
      simp only [e1, st_eqIs]
      simp [hbs, St.lowers, St.lower, stLe, leEnv, leObs, obLe, injB, pinC, AV.leC, AV.leCs, PV.leC, PV.Le_v, St.get, St.obj, look, rho, isNew, keptC, renH, Mode.ok, Mode.isZ, PV.isVal, PV.isNilSl, List.all_nil, List.all_cons, List.any_nil, List.any_cons, List.map_nil, List.map_cons, PV.Le_self]
    · have : k = n := by omega
      subst this
      have : allB (fun i => f i == g i) k = true := allB_iff.2 hall
      simp [sameV, this]
abbrev eqFn : AV := .cl 97 [] []
def in_eqRs (nn nn' : Bool) (m : Nat) (w : Nat → Nat) (h : Nat → Nat → Int) (m' : Nat) (w' : Nat → Nat) (h' : Nat → Nat → Int) := (G0, res96, ([] : List (Nat × Ob)), [Item.ir ir96], start [RL nn m w h, RL nn' m' w' h', eqFn] [])
theorem ev_eqRs : ∀ (nn nn' : Bool) (m : Nat) (w : Nat → Nat) (h : Nat → Nat → Int) (m' : Nat) (w' : Nat → Nat) (h' : Nat → Nat → Int), ev G0 res96 [] (3000 : Nat) (Or.nil.split Or.nil) [Item.ir ir96] (start [RL nn m w h, RL nn' m' w' h', eqFn] []) = VC.split ((↑m : Int) != (↑m' : Int)) (VC.doneP (AV.p true (PV.v (Value.bool false)))) (VC.loop ir96_L1 [Item.bend (0 : Nat), Item.ir ir96_T2] (St.mk [((0 : Nat), AV.p false (PV.sl nn (1 : Nat) m (RR w h))), ((1 : Nat), AV.p false (PV.sl nn' (1 : Nat) m' (RR w' h'))), ((2 : Nat), AV.cl (97 : Nat) [] []), ((6 : Nat), AV.p true (PV.v (Value.bool false))), ((14 : Nat), AV.p true (PV.v (Value.bool ((↑m : Int) != (↑m' : Int))))), ((15 : Nat), AV.p false (PV.sl nn (1 : Nat) m (RR w h))), ((16 : Nat), AV.p true (PV.v (Value.int IntKind.i64 (↑m : Int)))), ((17 : Nat), AV.p true (PV.v (Value.int IntKind.i64 (0 : Int))))] [])) := by intros; kernel_rfl
def st_eqRs (nn nn' : Bool) (m : Nat) (w : Nat → Nat) (h : Nat → Nat → Int) (w' : Nat → Nat) (h' : Nat → Nat → Int) (k : Nat) : St := ⟨[(0, RL nn m w h), (1, RL nn' m w' h'), (2, eqFn), (15, RL nn m w h), (16, AI m), (17, AI k)], []⟩
def r_eqRs (nn nn' : Bool) (m : Nat) (w : Nat → Nat) (h : Nat → Nat → Int) (w' : Nat → Nat) (h' : Nat → Nat → Int) (I : Nat → St → Prop) (k : Nat) := (G0, res96, ([] : List (Nat × Ob)), [Item.ir ir96_L1, .lend (I k), Item.bend 0, Item.ir ir96_T2], st_eqRs nn nn' m w h w' h' k)
theorem evr_eqRs : ∀ (nn nn' : Bool) (m : Nat) (w : Nat → Nat) (h : Nat → Nat → Int) (w' : Nat → Nat) (h' : Nat → Nat → Int) (I : Nat → St → Prop) (k : Nat), ev G0 res96 [] (3000 : Nat) ((Or.call [] (AB (rowL (w (↑k : Int).toNat) (h (↑k : Int).toNat) (0 : Nat) == rowL (w' (↑k : Int).toNat) (h' (↑k : Int).toNat) (0 : Nat))) [] (Or.nil.split Or.nil)).split Or.nil) [Item.ir ir96_L1, Item.lend (I k), Item.bend (0 : Nat), Item.ir ir96_T2] (st_eqRs nn nn' m w h w' h' k) = VC.split (decide ((↑k : Int) < (↑m : Int))) (VC.need ((0 : Int) ≤ (↑k : Int) ∧ (↑k : Int).toNat < m) (VC.need ((0 : Int) ≤ (↑k : Int) ∧ (↑k : Int).toNat < m) (VC.call (97 : Nat) [AV.p false (PV.sl false (1 : Nat) (w (↑k : Int).toNat) fun (j x : Nat) => PI (h (↑k : Int).toNat j)), AV.p false (PV.sl false (1 : Nat) (w' (↑k : Int).toNat) fun (j x : Nat) => PI (h' (↑k : Int).toNat j))] [] (AB (rowL (w (↑k : Int).toNat) (h (↑k : Int).toNat) (0 : Nat) == rowL (w' (↑k : Int).toNat) (h' (↑k : Int).toNat) (0 : Nat))) [] (VC.split (!rowL (w (↑k : Int).toNat) (h (↑k : Int).toNat) (0 : Nat) == rowL (w' (↑k : Int).toNat) (h' (↑k : Int).toNat) (0 : Nat)) (VC.doneP (AV.p true (PV.v (Value.bool false)))) (VC.lend (I k) (St.mk [((0 : Nat), AV.p false (PV.sl nn (1 : Nat) m (RR w h))), ((1 : Nat), AV.p false (PV.sl nn' (1 : Nat) m (RR w' h'))), ((2 : Nat), AV.cl (97 : Nat) [] []), ((15 : Nat), AV.p false (PV.sl nn (1 : Nat) m (RR w h))), ((16 : Nat), AV.p true (PV.v (Value.int IntKind.i64 (↑m : Int)))), ((17 : Nat), AV.p true (PV.v (Value.int IntKind.i64 (IntKind.i64.wrap ((↑k : Int) + (1 : Int)))))), ((18 : Nat), AV.p true (PV.v (Value.bool (decide ((↑k : Int) < (↑m : Int)))))), ((7 : Nat), AV.p true (PV.v (Value.int IntKind.i64 (↑k : Int)))), ((8 : Nat), AV.p false (PV.sl false (1 : Nat) (w (↑k : Int).toNat) fun (j x : Nat) => PI (h (↑k : Int).toNat j))), ((9 : Nat), AV.p false (PV.sl false (1 : Nat) (w' (↑k : Int).toNat) fun (j x : Nat) => PI (h' (↑k : Int).toNat j))), ((30 : Nat), AV.p true (PV.v (Value.bool !rowL (w (↑k : Int).toNat) (h (↑k : Int).toNat) (0 : Nat) == rowL (w' (↑k : Int).toNat) (h' (↑k : Int).toNat) (0 : Nat))))] [])))))) (VC.doneP (AV.p true (PV.v (Value.bool true)))) := by intros; kernel_rfl
theorem c_eqRs (nn nn' : Bool) (m : Nat) (w : Nat → Nat) (h : Nat → Nat → Int) (m' : Nat) (w' : Nat → Nat) (h' : Nat → Nat → Int) (hm : m ≤ 1048576) (hw : ∀ i, i < m → w i ≤ 1048576) : PRet Tryd.prog G0 96 [RL nn m w h, RL nn' m' w' h', eqFn] (AB (sameR m w h m' w' h')) := by
  refine PRet.by chk96 (ev_eqRs nn nn' m w h m' w' h') ?_
  simp only [VC.holds_split, VC.holds_need, VC.holds_doneP, VC.holds_done, VC.holds_either, VC.holds_call, VC.holds_callE, VC.holds_lend, VC.holds_stop, VC.holds_fail, decide_eq_true_eq, decide_eq_false_iff_not]
  refine ⟨fun h => ?_, fun h0 => ?_⟩
  · have : ¬ m = m' := by simp at h; omega
    simp [sameR, this]
  have hnm : m = m' := by simp at h0; omega
  subst hnm
  refine loop_by (st_eqRs nn nn' m w h w' h') (fun k => k ≤ m ∧ ∀ j, j < k → (rowL (w j) (h j) 0 == rowL (w' j) (h' j) 0) = true) (fun k => m - k) 0 [] [] [] (by simp) ?_ (evr_eqRs nn nn' m w h w' h') fun k hk => ?_
  · simp [st_eqRs, hbs, St.lowers, St.lower, stLe, leEnv, leObs, obLe, injB, pinC, AV.leC, AV.leCs, PV.leC, PV.Le_v, St.get, St.obj, look, rho, isNew, keptC, renH, Mode.ok, Mode.isZ, PV.isVal, PV.isNilSl, List.all_nil, List.all_cons, List.any_nil, List.any_cons, List.map_nil, List.map_cons, PV.Le_self]
  · obtain ⟨hk, hall⟩ := hk
    simp only [VC.holds_split, VC.holds_need, VC.holds_doneP, VC.holds_done, VC.holds_either, VC.holds_call, VC.holds_callE, VC.holds_lend, VC.holds_stop, VC.holds_fail, decide_eq_true_eq, decide_eq_false_iff_not, Int.toNat_natCast]
    refine ⟨fun h1 => ⟨by omega, by omega, c_eqIs _ _ _ _ _ _ (hw k (by omega)), fun h2 => ?_, fun h2 => Again.mk (k + 1) [] [] [] ⟨by omega, fun j hj => ?_⟩ (by omega) ?_⟩, fun h1 => ?_⟩
    · have h3 : (rowL (w k) (h k) 0 == rowL (w' k) (h' k) 0) = false := by simpa using h2
      simp [sameR, allB_no (p := fun i => rowL (w i) (h i) 0 == rowL (w' i) (h' i) 0) (show k < m by omega) h3]
    · by_cases h3 : j = k
      · subst h3; simpa using h2
      · exact hall j (by omega)
    · have e1 : IntKind.i64.wrap ((k : Int) + 1) = ((k + 1 : Nat) : Int) := wrap_in (by omega) (by omega)
      simp only [e1, st_eqRs]
      simp [hbs, St.lowers, St.lower, stLe, leEnv, leObs, obLe, injB, pinC, AV.leC, AV.leCs, PV.leC, PV.Le_v, St.get, St.obj, look, rho, isNew, keptC, renH, Mode.ok, Mode.isZ, PV.isVal, PV.isNilSl, List.all_nil, List.all_cons, List.any_nil, List.any_cons, List.map_nil, List.map_cons, PV.Le_self]
    · have : k = m := by omega
      subst this
      have : allB (fun i => rowL (w i) (h i) 0 == rowL (w' i) (h' i) 0) k = true := allB_iff.2 hall
      simp [sameR, this]
def in_l1S (nn nn' : Bool) (m : Nat) (w : Nat → Nat) (h : Nat → Nat → Int) (m' : Nat) (w' : Nat → Nat) (h' : Nat → Nat → Int) := (G0, res99, ([] : List (Nat × Ob)), [Item.ir ir99], start [RL nn m w h, RL nn' m' w' h'] [])
theorem ev_l1S : ∀ (nn nn' : Bool) (m : Nat) (w : Nat → Nat) (h : Nat → Nat → Int) (m' : Nat) (w' : Nat → Nat) (h' : Nat → Nat → Int), ev G0 res99 [] (3000 : Nat) (Or.nil.split Or.nil) [Item.ir ir99] (start [RL nn m w h, RL nn' m' w' h'] []) = VC.split ((↑m : Int) != (↑m' : Int)) (VC.doneP (AV.p true (PV.v (Value.bool false)))) (VC.loop ir99_L1 [Item.bend (0 : Nat), Item.ir ir99_T2] (St.mk [((0 : Nat), AV.p false (PV.sl nn (1 : Nat) m (RR w h))), ((1 : Nat), AV.p false (PV.sl nn' (1 : Nat) m' (RR w' h'))), ((4 : Nat), AV.p true (PV.v (Value.bool false))), ((10 : Nat), AV.p true (PV.v (Value.bool ((↑m : Int) != (↑m' : Int))))), ((5 : Nat), AV.p true (PV.v (Value.int IntKind.i64 (0 : Int))))] [])) := by intros; kernel_rfl
def st_l1S (nn nn' : Bool) (m : Nat) (w : Nat → Nat) (h : Nat → Nat → Int) (w' : Nat → Nat) (h' : Nat → Nat → Int) (k : Nat) : St := ⟨[(0, RL nn m w h), (1, RL nn' m w' h'), (5, AI k)], []⟩
def r_l1S (nn nn' : Bool) (m : Nat) (w : Nat → Nat) (h : Nat → Nat → Int) (w' : Nat → Nat) (h' : Nat → Nat → Int) (I : Nat → St → Prop) (k : Nat) := (G0, res99, ([] : List (Nat × Ob)), [Item.ir ir99_L1, .lend (I k), Item.bend 0, Item.ir ir99_T2], st_l1S nn nn' m w h w' h' k)
theorem evr_l1S : ∀ (nn nn' : Bool) (m : Nat) (w : Nat → Nat) (h : Nat → Nat → Int) (w' : Nat → Nat) (h' : Nat → Nat → Int) (I : Nat → St → Prop) (k : Nat), ev G0 res99 [] (3000 : Nat) ((Or.call [] (AB (ltL (rowL (w (↑k : Int).toNat) (h (↑k : Int).toNat) (0 : Nat)) (rowL (w' (↑k : Int).toNat) (h' (↑k : Int).toNat) (0 : Nat)))) [] (Or.nil.lit.lit.lit.lit.lit.lit.lit.lit.lit.lit.split (Or.call [] (AB (ltL (rowL (w' (↑k : Int).toNat) (h' (↑k : Int).toNat) (0 : Nat)) (rowL (w (↑k : Int).toNat) (h (↑k : Int).toNat) (0 : Nat)))) [] (Or.nil.split Or.nil).lit).lit.lit.lit.lit.lit.lit.lit.lit)).split Or.nil) [Item.ir ir99_L1, Item.lend (I k), Item.bend (0 : Nat), Item.ir ir99_T2] (st_l1S nn nn' m w h w' h' k) = VC.split (decide ((↑k : Int) < (↑m : Int))) (VC.need ((0 : Int) ≤ (↑k : Int) ∧ (↑k : Int).toNat < m) (VC.need ((0 : Int) ≤ (↑k : Int) ∧ (↑k : Int).toNat < m) (VC.call (93 : Nat) [AV.p false (PV.sl false (1 : Nat) (w (↑k : Int).toNat) fun (j x : Nat) => PI (h (↑k : Int).toNat j)), AV.p false (PV.sl false (1 : Nat) (w' (↑k : Int).toNat) fun (j x : Nat) => PI (h' (↑k : Int).toNat j))] [] (AB (ltL (rowL (w (↑k : Int).toNat) (h (↑k : Int).toNat) (0 : Nat)) (rowL (w' (↑k : Int).toNat) (h' (↑k : Int).toNat) (0 : Nat)))) [] (VC.split (ltL (rowL (w (↑k : Int).toNat) (h (↑k : Int).toNat) (0 : Nat)) (rowL (w' (↑k : Int).toNat) (h' (↑k : Int).toNat) (0 : Nat))) (VC.doneP (AV.p true (PV.v (Value.bool false)))) (VC.need ((0 : Int) ≤ (↑k : Int) ∧ (↑k : Int).toNat < m) (VC.need ((0 : Int) ≤ (↑k : Int) ∧ (↑k : Int).toNat < m) (VC.call (93 : Nat) [AV.p false (PV.sl false (1 : Nat) (w' (↑k : Int).toNat) fun (j x : Nat) => PI (h' (↑k : Int).toNat j)), AV.p false (PV.sl false (1 : Nat) (w (↑k : Int).toNat) fun (j x : Nat) => PI (h (↑k : Int).toNat j))] [] (AB (ltL (rowL (w' (↑k : Int).toNat) (h' (↑k : Int).toNat) (0 : Nat)) (rowL (w (↑k : Int).toNat) (h (↑k : Int).toNat) (0 : Nat)))) [] (VC.split (ltL (rowL (w' (↑k : Int).toNat) (h' (↑k : Int).toNat) (0 : Nat)) (rowL (w (↑k : Int).toNat) (h (↑k : Int).toNat) (0 : Nat))) (VC.doneP (AV.p true (PV.v (Value.bool false)))) (VC.lend (I k) (St.mk [((0 : Nat), AV.p false (PV.sl nn (1 : Nat) m (RR w h))), ((1 : Nat), AV.p false (PV.sl nn' (1 : Nat) m (RR w' h'))), ((5 : Nat), AV.p true (PV.v (Value.int IntKind.i64 (IntKind.i64.wrap ((↑k : Int) + (1 : Int)))))), ((14 : Nat), AV.p true (PV.v (Value.bool (decide ((↑k : Int) < (↑m : Int)))))), ((36 : Nat), AV.p true (PV.v (Value.bool (ltL (rowL (w' (↑k : Int).toNat) (h' (↑k : Int).toNat) (0 : Nat)) (rowL (w (↑k : Int).toNat) (h (↑k : Int).toNat) (0 : Nat))))))] [])))))))))) (VC.doneP (AV.p true (PV.v (Value.bool true)))) := by intros; kernel_rfl
theorem ltL_ff {x y : List Int} : (ltL x y = false ∧ ltL y x = false) ↔ (x == y) = true := by
  constructor
  · rintro ⟨h1, h2⟩; simpa using lt_anti x y h1 h2
  · intro h
    have : x = y := by simpa using h
    subst this
    exact ⟨lt_swo.irrefl _, lt_swo.irrefl _⟩
theorem c_l1S (nn nn' : Bool) (m : Nat) (w : Nat → Nat) (h : Nat → Nat → Int) (m' : Nat) (w' : Nat → Nat) (h' : Nat → Nat → Int) (hm : m ≤ 1048576) (hw : ∀ i, i < m → w i ≤ 1048576) (hw' : ∀ i, i < m' → w' i ≤ 1048576) : PRet Tryd.prog G0 99 [RL nn m w h, RL nn' m' w' h'] (AB (sameR m w h m' w' h')) := by
  refine PRet.by chk99 (ev_l1S nn nn' m w h m' w' h') ?_
  simp only [VC.holds_split, VC.holds_need, VC.holds_doneP, VC.holds_done, VC.holds_either, VC.holds_call, VC.holds_callE, VC.holds_lend, VC.holds_stop, VC.holds_fail, decide_eq_true_eq, decide_eq_false_iff_not]
  refine ⟨fun h => ?_, fun h0 => ?_⟩
  · have : ¬ m = m' := by simp at h; omega
    simp [sameR, this]
  have hnm : m = m' := by simp at h0; omega
  subst hnm
  refine loop_by (st_l1S nn nn' m w h w' h') (fun k => k ≤ m ∧ ∀ j, j < k → (rowL (w j) (h j) 0 == rowL (w' j) (h' j) 0) = true) (fun k => m - k) 0 [] [] [] (by simp) ?_ (evr_l1S nn nn' m w h w' h') fun k hk => ?_
  · simp [st_l1S, hbs, St.lowers, St.lower, stLe, leEnv, leObs, obLe, injB, pinC, AV.leC, AV.leCs, PV.leC, PV.Le_v, St.get, St.obj, look, rho, isNew, keptC, renH, Mode.ok, Mode.isZ, PV.isVal, PV.isNilSl, List.all_nil, List.all_cons, List.any_nil, List.any_cons, List.map_nil, List.map_cons, PV.Le_self]
  · obtain ⟨hk, hall⟩ := hk
    simp only [VC.holds_split, VC.holds_need, VC.holds_doneP, VC.holds_done, VC.holds_either, VC.holds_call, VC.holds_callE, VC.holds_lend, VC.holds_stop, VC.holds_fail, decide_eq_true_eq, decide_eq_false_iff_not, Int.toNat_natCast]
    have bad : k < m → (rowL (w k) (h k) 0 == rowL (w' k) (h' k) 0) = false → sameR m w h m w' h' = false := fun h1 h3 => by simp [sameR, allB_no (p := fun i => rowL (w i) (h i) 0 == rowL (w' i) (h' i) 0) h1 h3]
    have ne : ∀ {x y : List Int}, ltL x y = true → (x == y) = false := fun {x y} h => by
      cases h2 : (x == y) with
      | false => rfl
      | true => rw [(ltL_ff.2 h2).1] at h; cases h
    refine ⟨fun h1 => ⟨by omega, by omega, c_less _ _ _ _ _ _ (hw k (by omega)), fun h2 => ?_, fun h2 => ⟨by omega, by omega, c_less _ _ _ _ _ _ (hw' k (by omega)), fun h3 => ?_, fun h3 => Again.mk (k + 1) [] [] [] ⟨by omega, fun j hj => ?_⟩ (by omega) ?_⟩⟩, fun h1 => ?_⟩
    · rw [bad (by omega) (ne h2)]; simp
    · have := ne h3
      rw [bad (by omega) (by rw [beq_eq_false_iff_ne] at this ⊢; exact fun e => this e.symm)]; simp
    · by_cases h4 : j = k
      · subst h4; exact ltL_ff.1 ⟨h2, h3⟩
      · exact hall j (by omega)
    · have e1 : IntKind.i64.wrap ((k : Int) + 1) = ((k + 1 : Nat) : Int) := wrap_in (by omega) (by omega)
      simp only [e1, st_l1S]
      simp [hbs, St.lowers, St.lower, stLe, leEnv, leObs, obLe, injB, pinC, AV.leC, AV.leCs, PV.leC, PV.Le_v, St.get, St.obj, look, rho, isNew, keptC, renH, Mode.ok, Mode.isZ, PV.isVal, PV.isNilSl, List.all_nil, List.all_cons, List.any_nil, List.any_cons, List.map_nil, List.map_cons, PV.Le_self]
    · have : k = m := by omega
      subst this
      have : allB (fun i => rowL (w i) (h i) 0 == rowL (w' i) (h' i) 0) k = true := allB_iff.2 hall
      simp [sameR, this]
/-! ### SameBag -/
def bagB (n : Nat) (f : Nat → ByteArray) (m : Nat) (w : Nat → Nat) (h : Nat → Nat → Int) (n' : Nat) (f' : Nat → ByteArray) (m' : Nat) (w' : Nat → Nat) (h' : Nat → Nat → Int) : Bool :=
  tableB n f m w h && tableB n' f' m' w' h' && sameT n f n' f' && sameR (srM n f m w h) (wL (srtA m w h)) (hL (srtA m w h)) (srM n' f' m' w' h') (wL (srtA m' w' h')) (hL (srtA m' w' h'))
def in_imSB (n : Nat) (f : Nat → ByteArray) (m : Nat) (w : Nat → Nat) (h : Nat → Nat → Int) (n' : Nat) (f' : Nat → ByteArray) (m' : Nat) (w' : Nat → Nat) (h' : Nat → Nat → Int) := (G0, res34, ([] : List (Nat × Ob)), [Item.ir ir34], start [TA false false n f m w h, TA false false n' f' m' w' h'] [])
theorem ev_imSB : ∀ (n : Nat) (f : Nat → ByteArray) (m : Nat) (w : Nat → Nat) (h : Nat → Nat → Int) (n' : Nat) (f' : Nat → ByteArray) (m' : Nat) (w' : Nat → Nat) (h' : Nat → Nat → Int), ev G0 res34 [] (3000 : Nat) (Or.call [] (AB (tableB n f m w h)) [] (Or.nil.lit.lit.lit.lit.lit.lit.lit.lit.lit.lit.lit.split (Or.call [] (AB (tableB n' f' m' w' h')) [] (Or.nil.lit.lit.lit.lit.lit.lit.lit.split (Or.call [] (AB (sameT n f n' f')) [] (Or.nil.split (Or.call [] taR (srH n f m w h) (Or.call [] taR (srH n' f' m' w' h') (Or.call [] (AB (sameR (srM n f m w h) (wL (srtA m w h)) (hL (srtA m w h)) (srM n' f' m' w' h') (wL (srtA m' w' h')) (hL (srtA m' w' h')))) [] Or.nil)))).lit.lit).lit.lit.lit.lit).lit.lit).lit)) [Item.ir ir34] (start [TA false false n f m w h, TA false false n' f' m' w' h'] []) = VC.call (37 : Nat) [AV.ag [AV.p false (PV.sl false (1 : Nat) n fun (i x : Nat) => PT (f i)), AV.p false (PV.sl false (1 : Nat) m (RR w h))]] [] (AB (tableB n f m w h)) [] (VC.split (!tableB n f m w h) (VC.doneP (AV.p true (PV.v (Value.bool false)))) (VC.call (37 : Nat) [AV.ag [AV.p false (PV.sl false (1 : Nat) n' fun (i x : Nat) => PT (f' i)), AV.p false (PV.sl false (1 : Nat) m' (RR w' h'))]] [] (AB (tableB n' f' m' w' h')) [] (VC.split (!tableB n' f' m' w' h') (VC.doneP (AV.p true (PV.v (Value.bool false)))) (VC.call (95 : Nat) [AV.p false (PV.sl false (1 : Nat) n fun (i x : Nat) => PT (f i)), AV.p false (PV.sl false (1 : Nat) n' fun (i x : Nat) => PT (f' i))] [] (AB (sameT n f n' f')) [] (VC.split (!sameT n f n' f') (VC.doneP (AV.p true (PV.v (Value.bool false)))) (VC.call (30 : Nat) [AV.ag [AV.p false (PV.sl false (1 : Nat) n fun (i x : Nat) => PT (f i)), AV.p false (PV.sl false (1 : Nat) m (RR w h))]] [] taR (srH n f m w h) (VC.call (30 : Nat) [AV.ag [AV.p false (PV.sl false (1 : Nat) n' fun (i x : Nat) => PT (f' i)), AV.p false (PV.sl false (1 : Nat) m' (RR w' h'))]] [] taR (srH n' f' m' w' h') (VC.call (96 : Nat) [AV.p false (PV.sl false (1 : Nat) (srM n f m w h) (RR (wL (srtA m w h)) (hL (srtA m w h)))), AV.p false (PV.sl false (1 : Nat) (srM n' f' m' w' h') (RR (wL (srtA m' w' h')) (hL (srtA m' w' h')))), AV.cl (97 : Nat) [] []] [] (AB (sameR (srM n f m w h) (wL (srtA m w h)) (hL (srtA m w h)) (srM n' f' m' w' h') (wL (srtA m' w' h')) (hL (srtA m' w' h')))) [] (VC.doneP (AV.p true (PV.v (Value.bool (sameR (srM n f m w h) (wL (srtA m w h)) (hL (srtA m w h)) (srM n' f' m' w' h') (wL (srtA m' w' h')) (hL (srtA m' w' h'))))))))))))))) := by intros; kernel_rfl
def in_spSB (n : Nat) (f : Nat → ByteArray) (m : Nat) (w : Nat → Nat) (h : Nat → Nat → Int) (n' : Nat) (f' : Nat → ByteArray) (m' : Nat) (w' : Nat → Nat) (h' : Nat → Nat → Int) := (G0, res36, ([] : List (Nat × Ob)), [Item.ir ir36], start [TA false false n f m w h, TA false false n' f' m' w' h'] [])
theorem ev_spSB : ∀ (n : Nat) (f : Nat → ByteArray) (m : Nat) (w : Nat → Nat) (h : Nat → Nat → Int) (n' : Nat) (f' : Nat → ByteArray) (m' : Nat) (w' : Nat → Nat) (h' : Nat → Nat → Int), ev G0 res36 [] (3000 : Nat) (Or.call [] (AB (tableB n f m w h)) [] ((Or.call [] (AB (tableB n' f' m' w' h')) [] ((Or.call [] (AB (sameT n f n' f')) [] ((Or.call [] taR (srF n f m w h) (Or.call [] taR (srF n' f' m' w' h') (Or.call [] (AB (sameR (srM n f m w h) (wL (srtA m w h)) (hL (srtA m w h)) (srM n' f' m' w' h') (wL (srtA m' w' h')) (hL (srtA m' w' h')))) [] Or.nil.lit).lit.lit).lit.lit.lit).lit.split Or.nil.lit.lit.lit.lit.lit.lit.lit).lit).lit.lit.lit.lit.split Or.nil.lit.lit.lit.lit.lit.lit.lit.lit.lit.lit.lit.lit.lit).lit).lit.split Or.nil.lit.lit.lit.lit.lit.lit.lit.lit.lit.lit.lit.lit.lit.lit.lit.lit)) [Item.ir ir36] (start [TA false false n f m w h, TA false false n' f' m' w' h'] []) = VC.call (33 : Nat) [AV.ag [AV.p false (PV.sl false (1 : Nat) n fun (i x : Nat) => PT (f i)), AV.p false (PV.sl false (1 : Nat) m (RR w h))]] [] (AB (tableB n f m w h)) [] (VC.split (tableB n f m w h) (VC.call (33 : Nat) [AV.ag [AV.p false (PV.sl false (1 : Nat) n' fun (i x : Nat) => PT (f' i)), AV.p false (PV.sl false (1 : Nat) m' (RR w' h'))]] [] (AB (tableB n' f' m' w' h')) [] (VC.split (tableB n' f' m' w' h') (VC.call (98 : Nat) [AV.p false (PV.sl false (1 : Nat) n fun (i x : Nat) => PT (f i)), AV.p false (PV.sl false (1 : Nat) n' fun (i x : Nat) => PT (f' i))] [] (AB (sameT n f n' f')) [] (VC.split (sameT n f n' f') (VC.call (32 : Nat) [AV.ag [AV.p false (PV.sl false (1 : Nat) n fun (i x : Nat) => PT (f i)), AV.p false (PV.sl false (1 : Nat) m (RR w h))]] [] taR (srF n f m w h) (VC.call (32 : Nat) [AV.ag [AV.p false (PV.sl false (1 : Nat) n' fun (i x : Nat) => PT (f' i)), AV.p false (PV.sl false (1 : Nat) m' (RR w' h'))]] [] taR (srF n' f' m' w' h') (VC.call (99 : Nat) [AV.p false (PV.sl false (1 : Nat) (srM n f m w h) (RR (wL (srtA m w h)) (hL (srtA m w h)))), AV.p false (PV.sl false (1 : Nat) (srM n' f' m' w' h') (RR (wL (srtA m' w' h')) (hL (srtA m' w' h'))))] [] (AB (sameR (srM n f m w h) (wL (srtA m w h)) (hL (srtA m w h)) (srM n' f' m' w' h') (wL (srtA m' w' h')) (hL (srtA m' w' h')))) [] (VC.doneP (AV.p true (PV.v (Value.bool (sameR (srM n f m w h) (wL (srtA m w h)) (hL (srtA m w h)) (srM n' f' m' w' h') (wL (srtA m' w' h')) (hL (srtA m' w' h')))))))))) (VC.doneP (AV.p true (PV.v (Value.bool false)))))) (VC.doneP (AV.p true (PV.v (Value.bool false)))))) (VC.doneP (AV.p true (PV.v (Value.bool false))))) := by intros; kernel_rfl
theorem sr_of_ok {n : Nat} {f : Nat → ByteArray} {m : Nat} {w : Nat → Nat} (h : Nat → Nat → Int) (ok : TaOk n f m w) : srM n f m w h ≤ 1048576 ∧ ∀ i, i < srM n f m w h → wL (srtA m w h) i ≤ 1048576 := by
  refine ⟨?_, fun i hi => ?_⟩
  · unfold srM; split
    · exact ok.hm
    · omega
  · have hi' : i < m := by unfold srM at hi; split at hi <;> omega
    have h1 : i < (srtA m w h).length := by rw [srt_len]; exact hi'
    have h2 : (srtA m w h)[i] ∈ tabL m w h := (srt_perm _).mem_iff.1 (List.getElem_mem h1)
    simp only [tabL, List.mem_map, List.mem_range] at h2
    obtain ⟨k, hk, he⟩ := h2
    have : wL (srtA m w h) i = w k := by
      simp only [wL, List.getD_eq_getElem?_getD, List.getElem?_eq_getElem h1, Option.getD_some, ← he, rowL_len]
    rw [this]; exact ok.hw k hk
theorem c_imSB (n : Nat) (f : Nat → ByteArray) (m : Nat) (w : Nat → Nat) (h : Nat → Nat → Int) (n' : Nat) (f' : Nat → ByteArray) (m' : Nat) (w' : Nat → Nat) (h' : Nat → Nat → Int) (ok : TaOk n f m w) (ok' : TaOk n' f' m' w') :
    PRet Tryd.prog G0 34 [TA false false n f m w h, TA false false n' f' m' w' h'] (AB (bagB n f m w h n' f' m' w' h')) := by
  refine PRet.by chk34 (ev_imSB n f m w h n' f' m' w' h') ?_
  simp only [VC.holds_split, VC.holds_need, VC.holds_doneP, VC.holds_done, VC.holds_either, VC.holds_call, VC.holds_callE, VC.holds_lend, VC.holds_stop, VC.holds_fail, decide_eq_true_eq, decide_eq_false_iff_not]
  have s1 := sr_of_ok h ok
  refine ⟨c_imTV _ _ _ _ _ _ _ ok.hn ok.hf ok.hm ok.hw, fun h1 => ?_, fun h1 => ⟨c_imTV _ _ _ _ _ _ _ ok'.hn ok'.hf ok'.hm ok'.hw, fun h2 => ?_, fun h2 => ⟨c_eqTs _ _ _ _ _ _ ok.hn, fun h3 => ?_, fun h3 => ⟨c_imSR _ _ _ _ _ ok, c_imSR _ _ _ _ _ ok', c_eqRs _ _ _ _ _ _ _ _ s1.1 s1.2, ?_⟩⟩⟩⟩
  · have e : tableB n f m w h = false := by simpa using h1
    simp [bagB, e]
  · have e : tableB n' f' m' w' h' = false := by simpa using h2
    simp [bagB, e]
  · have e : sameT n f n' f' = false := by simpa using h3
    simp [bagB, e]
  · have e1 : tableB n f m w h = true := by simpa using h1
    have e2 : tableB n' f' m' w' h' = true := by simpa using h2
    have e3 : sameT n f n' f' = true := by simpa using h3
    simp [bagB, e1, e2, e3]
theorem c_spSB (n : Nat) (f : Nat → ByteArray) (m : Nat) (w : Nat → Nat) (h : Nat → Nat → Int) (n' : Nat) (f' : Nat → ByteArray) (m' : Nat) (w' : Nat → Nat) (h' : Nat → Nat → Int) (ok : TaOk n f m w) (ok' : TaOk n' f' m' w') :
    PRet Tryd.prog G0 36 [TA false false n f m w h, TA false false n' f' m' w' h'] (AB (bagB n f m w h n' f' m' w' h')) := by
  refine PRet.by chk36 (ev_spSB n f m w h n' f' m' w' h') ?_
  simp only [VC.holds_split, VC.holds_need, VC.holds_doneP, VC.holds_done, VC.holds_either, VC.holds_call, VC.holds_callE, VC.holds_lend, VC.holds_stop, VC.holds_fail, decide_eq_true_eq, decide_eq_false_iff_not]
  have s1 := sr_of_ok h ok
  have s2 := sr_of_ok h' ok'
  refine ⟨c_spTV _ _ _ _ _ _ _ ok.hn ok.hf ok.hm ok.hw, fun e1 => ⟨c_spTV _ _ _ _ _ _ _ ok'.hn ok'.hf ok'.hm ok'.hw, fun e2 => ⟨c_l1T _ _ _ _ _ _ ok.hn, fun e3 => ⟨c_spSR _ _ _ _ _ ok, c_spSR _ _ _ _ _ ok', c_l1S _ _ _ _ _ _ _ _ s1.1 s1.2 s2.2, ?_⟩, fun e3 => ?_⟩, fun e2 => ?_⟩, fun e1 => ?_⟩
  · simp [bagB, e1, e2, e3]
  · simp [bagB, e3]
  · simp [bagB, e2]
  · simp [bagB, e1]
def in_lawSB (n : Nat) (f : Nat → ByteArray) (m : Nat) (w : Nat → Nat) (h : Nat → Nat → Int) (n' : Nat) (f' : Nat → ByteArray) (m' : Nat) (w' : Nat → Nat) (h' : Nat → Nat → Int) := (G0, res7, ([] : List (Nat × Ob)), [Item.ir ir7], start [TA false false n f m w h, TA false false n' f' m' w' h'] [])
theorem ev_lawSB : ∀ (n : Nat) (f : Nat → ByteArray) (m : Nat) (w : Nat → Nat) (h : Nat → Nat → Int) (n' : Nat) (f' : Nat → ByteArray) (m' : Nat) (w' : Nat → Nat) (h' : Nat → Nat → Int), ev G0 res7 [] (3000 : Nat) (Or.callE [] Int (fun (r : Int) => r = (-1 : Int) ∨ (0 : Int) ≤ r ∧ r + (↑(tabSz n f m w) : Int) = (1048576 : Int)) (fun (r : Int) => AI r) (fun (x : Int) => []) fun (r : Int) => Or.nil.split (Or.callE [] Int (fun (r_1 : Int) => r_1 = (-1 : Int) ∨ (0 : Int) ≤ r_1 ∧ r_1 + (↑(tabSz n' f' m' w') : Int) = r) (fun (r_1 : Int) => AI r_1) (fun (x : Int) => []) fun (r_1 : Int) => Or.nil.split (Or.call [] taR (taH n f m w h) (Or.call [] taR (taH n' f' m' w' h') (Or.call [] (AB (bagB n f m w h n' f' m' w' h')) [] (Or.call [] taR (taH n f m w h) (Or.call [] taR (taH n' f' m' w' h') (Or.call [] (AB (bagB n f m w h n' f' m' w' h')) [] (Or.nil.split (Or.call [] taR (taH n f m w h) (Or.call [] (AB true) [] (Or.call [] taR (taH n' f' m' w' h') (Or.call [] (AB true) [] Or.nil.lit)).lit))))))))))) [Item.ir ir7] (start [TA false false n f m w h, TA false false n' f' m' w' h'] []) = VC.callE Int (38 : Nat) [AV.ag [AV.p false (PV.sl false (1 : Nat) n fun (i x : Nat) => PT (f i)), AV.p false (PV.sl false (1 : Nat) m (RR w h))], AV.p true (PV.v (Value.int IntKind.i64 (1048576 : Int)))] [] (fun (r : Int) => r = (-1 : Int) ∨ (0 : Int) ≤ r ∧ r + (↑(tabSz n f m w) : Int) = (1048576 : Int)) (fun (r : Int) => AI r) (fun (x : Int) => []) fun (r : Int) => VC.split (decide (r < (0 : Int))) (VC.doneP (AV.p true (PV.v (Value.bool true)))) (VC.callE Int (38 : Nat) [AV.ag [AV.p false (PV.sl false (1 : Nat) n' fun (i x : Nat) => PT (f' i)), AV.p false (PV.sl false (1 : Nat) m' (RR w' h'))], AV.p true (PV.v (Value.int IntKind.i64 r))] [] (fun (r_1 : Int) => r_1 = (-1 : Int) ∨ (0 : Int) ≤ r_1 ∧ r_1 + (↑(tabSz n' f' m' w') : Int) = r) (fun (r_1 : Int) => AI r_1) (fun (x : Int) => []) fun (r_1 : Int) => VC.split (decide (r_1 < (0 : Int))) (VC.doneP (AV.p true (PV.v (Value.bool true)))) (VC.call (39 : Nat) [AV.ag [AV.p false (PV.sl false (1 : Nat) n fun (i x : Nat) => PT (f i)), AV.p false (PV.sl false (1 : Nat) m (RR w h))]] [] taR (taH n f m w h) (VC.call (39 : Nat) [AV.ag [AV.p false (PV.sl false (1 : Nat) n' fun (i x : Nat) => PT (f' i)), AV.p false (PV.sl false (1 : Nat) m' (RR w' h'))]] [] taR (taH n' f' m' w' h') (VC.call (36 : Nat) [AV.ag [AV.p false (PV.sl false (1 : Nat) n (TR f)), AV.p false (PV.sl false (1 : Nat) m (RR w h))], AV.ag [AV.p false (PV.sl false (1 : Nat) n' (TR f')), AV.p false (PV.sl false (1 : Nat) m' (RR w' h'))]] [] (AB (bagB n f m w h n' f' m' w' h')) [] (VC.call (39 : Nat) [AV.ag [AV.p false (PV.sl false (1 : Nat) n fun (i x : Nat) => PT (f i)), AV.p false (PV.sl false (1 : Nat) m (RR w h))]] [] taR (taH n f m w h) (VC.call (39 : Nat) [AV.ag [AV.p false (PV.sl false (1 : Nat) n' fun (i x : Nat) => PT (f' i)), AV.p false (PV.sl false (1 : Nat) m' (RR w' h'))]] [] taR (taH n' f' m' w' h') (VC.call (34 : Nat) [AV.ag [AV.p false (PV.sl false (1 : Nat) n (TR f)), AV.p false (PV.sl false (1 : Nat) m (RR w h))], AV.ag [AV.p false (PV.sl false (1 : Nat) n' (TR f')), AV.p false (PV.sl false (1 : Nat) m' (RR w' h'))]] [] (AB (bagB n f m w h n' f' m' w' h')) [] (VC.split (!bagB n f m w h n' f' m' w' h' == bagB n f m w h n' f' m' w' h') (VC.doneP (AV.p true (PV.v (Value.bool false)))) (VC.call (39 : Nat) [AV.ag [AV.p false (PV.sl false (1 : Nat) n fun (i x : Nat) => PT (f i)), AV.p false (PV.sl false (1 : Nat) m (RR w h))]] [] taR (taH n f m w h) (VC.call (24 : Nat) [AV.ag [AV.p false (PV.sl false (1 : Nat) n (TR f)), AV.p false (PV.sl false (1 : Nat) m (RR w h))], AV.ag [AV.p false (PV.sl false (1 : Nat) n (TR f)), AV.p false (PV.sl false (1 : Nat) m (RR w h))]] [] (AB true) [] (VC.call (39 : Nat) [AV.ag [AV.p false (PV.sl false (1 : Nat) n' fun (i x : Nat) => PT (f' i)), AV.p false (PV.sl false (1 : Nat) m' (RR w' h'))]] [] taR (taH n' f' m' w' h') (VC.call (24 : Nat) [AV.ag [AV.p false (PV.sl false (1 : Nat) n' (TR f')), AV.p false (PV.sl false (1 : Nat) m' (RR w' h'))], AV.ag [AV.p false (PV.sl false (1 : Nat) n' (TR f')), AV.p false (PV.sl false (1 : Nat) m' (RR w' h'))]] [] (AB true) [] (VC.doneP (AV.p true (PV.v (Value.bool true)))))))))))))))) := by intros; kernel_rfl
theorem c_lawSB (n : Nat) (f : Nat → ByteArray) (m : Nat) (w : Nat → Nat) (h : Nat → Nat → Int) (n' : Nat) (f' : Nat → ByteArray) (m' : Nat) (w' : Nat → Nat) (h' : Nat → Nat → Int) (hn : n ≤ maxLen) (hf : ∀ i, (f i).size ≤ maxLen) (hm : m ≤ maxLen) (hw : ∀ i, w i ≤ maxLen) (hn' : n' ≤ maxLen) (hf' : ∀ i, (f' i).size ≤ maxLen) (hm' : m' ≤ maxLen) (hw' : ∀ i, w' i ≤ maxLen) :
    PRet Tryd.prog G0 7 [TA false false n f m w h, TA false false n' f' m' w' h'] (AB true) := by
  refine PRet.by chk7 (ev_lawSB n f m w h n' f' m' w' h') ?_
  simp only [VC.holds_split, VC.holds_need, VC.holds_doneP, VC.holds_done, VC.holds_either, VC.holds_call, VC.holds_callE, VC.holds_lend, VC.holds_stop, VC.holds_fail, decide_eq_true_eq, decide_eq_false_iff_not]
  refine ⟨c_szA _ _ _ _ _ _ _ _ hn hf hm hw (by omega) (by omega), fun r hr => ⟨fun _ => by simp, fun h1 => ?_⟩⟩
  have hr := hr.resolve_left (by omega)
  refine ⟨c_szA _ _ _ _ _ _ _ _ hn' hf' hm' hw' (by omega) (by omega), fun r' hr' => ⟨fun _ => by simp, fun h2 => ?_⟩⟩
  have hr' := hr'.resolve_left (by omega)
  have ok := tab_ok (n := n) (f := f) (m := m) (w := w) (by omega)
  have ok' := tab_ok (n := n') (f := f') (m := m') (w := w') (by omega)
  have to := c_toA false false n f m w h ok.hn ok.hm ok.hw
  have to' := c_toA false false n' f' m' w' h' ok'.hn ok'.hm ok'.hw
  have eq0 := c_eqA false false false false n f m w h (by have := ok.hn; omega) (by have := ok.hm; omega) (fun i hi => by have := ok.hw i hi; omega)
  have eq1 := c_eqA false false false false n' f' m' w' h' (by have := ok'.hn; omega) (by have := ok'.hm; omega) (fun i hi => by have := ok'.hw i hi; omega)
  refine ⟨to, to', c_spSB _ _ _ _ _ _ _ _ _ _ ok ok', to, to', c_imSB _ _ _ _ _ _ _ _ _ _ ok ok', fun h => by simp at h, fun _ => ⟨to, eq0, to', eq1, ?_⟩⟩
  simp
theorem law_FnExactSameBag (xs : List AV) (h : Args Tryd.prog Tryd.f7.params.toList xs) : PRet Tryd.prog G0 7 xs (AB true) := by
  have hp : Tryd.f7.params.toList = [59, 59] := by kernel_rfl
  rw [hp] at h
  obtain ⟨n, f, m, w, hh, a, cs, k1, k2, k3, k4, ha, h2, rfl⟩ := args_tab h
  obtain ⟨n', f', m', w', hh', a', cs', k1', k2', k3', k4', ha', h3, rfl⟩ := args_tab h2
  cases h3
  exact (c_lawSB n f m w hh n' f' m' w' hh' k1 k2 k3 k4 k1' k2' k3' k4').args ⟨ha, ha', trivial⟩
end Go.Gw
