/- The law on MemoryRun; with no condition. -/
import Derived.Test.YtmnfbiaelkdljaaLawMem
import Derived.KernelRfl
namespace Go.Gw
open Go Go.Proofs
set_option linter.unusedSimpArgs false
set_option linter.unusedVariables false
set_option maxRecDepth 100000
def ir39 : Ir :=
  (.seq
  (.reg [] [o 4 (.mov (ci 0))])
  (.seq
  (.reg [5, 6, 7, 8] [o 5 (.mov (tt 1)),
    o 6 (.mov (tt 0)),
    o 7 (.len (tt 6)),
    o 8 (.bin .sub (tt 5) (tt 7)),
    o 1 (.mov (tt 8))])
  (.seq
  (.seq
  (.reg [9] [o 9 (.mov (tt 1)),
    o 10 (.bin .lss (tt 9) (ci 0))])
  (.cond (tt 10)
   (.seq
   (.reg [] [o 4 (.mov (ci (-1)))])
   .ret)
   .skip))
  (.seq
  (.reg [11] [o 11 (.mov (tt 1)),
    o 4 (.mov (tt 11))])
  .ret))))
def keep39 : List Nat := [0, 1, 4, 10]
def res39 : List RI := [.tmp 4]
theorem chk39 : chk Try.prog 39 2 keep39 = some (ir39, res39) := by kernel_rfl
def ir80 : Ir :=
  (.seq
  (.reg [] [o 1 (.box 4 (tt 0)),
    o 2 (.alloc [(.int .i64 0), (.bool false), (.int .i64 0), (.int .i64 0)])])
  (.seq
  (.reg [] [o 3 (.alloc [(.int .i64 0), (.bool false), (.int .i64 0), (.int .i64 0)])])
  (.seq
  (.reg [4, 5, 6] [o 4 (.fadr 0 (tt 1)),
    o 5 (.load false 1 (tt 4)),
    o 6 (.fadr 0 (tt 3)),
    on (.store 1 (tt 6) (tt 5))])
  (.seq
  (.reg [7, 8, 9] [o 7 (.fadr 1 (tt 1)),
    o 8 (.load false 1 (tt 7)),
    o 9 (.fadr 1 (tt 3)),
    on (.store 1 (tt 9) (tt 8))])
  (.seq
  (.reg [10, 11, 12] [o 10 (.fadr 2 (tt 1)),
    o 11 (.load false 1 (tt 10)),
    o 12 (.fadr 2 (tt 3)),
    on (.store 1 (tt 12) (tt 11))])
  (.seq
  (.reg [13, 14, 15] [o 13 (.fadr 3 (tt 1)),
    o 14 (.load false 1 (tt 13)),
    o 15 (.fadr 3 (tt 3)),
    on (.store 1 (tt 15) (tt 14))])
  (.seq
  (.reg [16] [o 16 (.load true 4 (tt 3)),
    on (.store 4 (tt 2) (tt 16))])
  .ret)))))))
def keep80 : List Nat := [0, 1, 2, 3]
def res80 : List RI := [.cell true 4 2]
theorem chk80 : chk Try.prog 80 1 keep80 = some (ir80, res80) := by kernel_rfl
def ir41_L1 : Ir :=
  (.seq
  (.seq
  (.reg [8, 9, 10] [o 8 (.mov (tt 4)),
    o 9 (.mov (tt 0)),
    o 10 (.len (tt 9)),
    o 11 (.bin .lss (tt 8) (tt 10))])
  (.cond (tt 11)
   .skip
   (.exit 0)))
  (.seq
  (.block 1
   (.reg [14, 15, 16, 17, 18, 19, 20, 21] [o 14 (.mov (tt 3)),
     o 15 (.mov (tt 4)),
     o 16 (.mov (tt 0)),
     o 17 (.mov (tt 4)),
     o 18 (.idx 4 (tt 16) (tt 17)),
     o 19 (.load true 4 (tt 18)),
     o 20 (.call 80 [(tt 19)]),
     o 21 (.idx 4 (tt 14) (tt 15)),
     on (.store 4 (tt 21) (tt 20))]))
  (.reg [12, 13] [o 12 (.mov (tt 4)),
    o 13 (.bin .add (tt 12) (ci 1)),
    o 4 (.mov (tt 13))])))
def ir41_T2 : Ir :=
  (.seq
  (.reg [22] [o 22 (.mov (tt 3)),
    o 2 (.mov (tt 22))])
  .ret)
def ir41 : Ir :=
  (.seq
  (.reg [] [o 2 (.mov (.const (.slice none 0 0)))])
  (.seq
  (.reg [5, 6, 7] [o 5 (.mov (tt 0)),
    o 6 (.len (tt 5)),
    o 7 (.mkSlc 4 32 [(.int .i64 0), (.bool false), (.int .i64 0), (.int .i64 0)] (tt 6) (tt 6)),
    o 3 (.mov (tt 7))])
  (.seq
  (.seq
  (.reg [] [o 4 (.mov (ci 0))])
  (.block 0
   (.loop ir41_L1)))
  ir41_T2)))
def keep41 : List Nat := [0, 2, 3, 4, 11]
def res41 : List RI := [.tmp 2]
theorem chk41 : chk Try.prog 41 1 keep41 = some (ir41, res41) := by kernel_rfl
def ir81 : Ir :=
  (.seq
  (.reg [] [o 2 (.box 4 (tt 0)),
    o 3 (.box 4 (tt 1)),
    o 4 (.mov (cb false))])
  (.seq
  (.seq
  (.reg [5, 6, 7, 8] [o 5 (.fadr 0 (tt 2)),
    o 6 (.load false 1 (tt 5)),
    o 7 (.fadr 0 (tt 3)),
    o 8 (.load false 1 (tt 7)),
    o 9 (.bin .neq (tt 6) (tt 8))])
  (.cond (tt 9)
   (.seq
   (.reg [] [o 4 (.mov (cb false))])
   .ret)
   .skip))
  (.seq
  (.seq
  (.reg [10, 11, 12, 13] [o 10 (.fadr 1 (tt 2)),
    o 11 (.load false 1 (tt 10)),
    o 12 (.fadr 1 (tt 3)),
    o 13 (.load false 1 (tt 12)),
    o 14 (.binB .neq (tt 11) (tt 13))])
  (.cond (tt 14)
   (.seq
   (.reg [] [o 4 (.mov (cb false))])
   .ret)
   .skip))
  (.seq
  (.seq
  (.reg [15, 16, 17, 18] [o 15 (.fadr 2 (tt 2)),
    o 16 (.load false 1 (tt 15)),
    o 17 (.fadr 2 (tt 3)),
    o 18 (.load false 1 (tt 17)),
    o 19 (.bin .neq (tt 16) (tt 18))])
  (.cond (tt 19)
   (.seq
   (.reg [] [o 4 (.mov (cb false))])
   .ret)
   .skip))
  (.seq
  (.seq
  (.reg [20, 21, 22, 23] [o 20 (.fadr 3 (tt 2)),
    o 21 (.load false 1 (tt 20)),
    o 22 (.fadr 3 (tt 3)),
    o 23 (.load false 1 (tt 22)),
    o 24 (.bin .neq (tt 21) (tt 23))])
  (.cond (tt 24)
   (.seq
   (.reg [] [o 4 (.mov (cb false))])
   .ret)
   .skip))
  (.seq
  (.reg [] [o 4 (.mov (cb true))])
  .ret))))))
def keep81 : List Nat := [0, 1, 2, 3, 4, 9, 14, 19, 24]
def res81 : List RI := [.tmp 4]
theorem chk81 : chk Try.prog 81 2 keep81 = some (ir81, res81) := by kernel_rfl
def ir43_L1 : Ir :=
  (.seq
  (.seq
  (.reg [11, 12, 13] [o 11 (.mov (tt 5)),
    o 12 (.mov (tt 0)),
    o 13 (.len (tt 12)),
    o 14 (.bin .lss (tt 11) (tt 13))])
  (.cond (tt 14)
   .skip
   (.exit 0)))
  (.seq
  (.block 1
   (.seq
   (.dreg [17, 18, 19, 20, 21, 22, 23, 24, 25] [0, 0, 3, 7, 0, 0, 48, 112, 255, 511] [(3, 1020), (3, 2020), (3, 3020), (3, 4020), (7, 1024), (7, 2024), (7, 3024), (7, 4024), (8, 1025), (8, 2025), (8, 3025), (8, 4025), (8, 5025), (8, 6025), (8, 7025), (8, 8025)] [o 17 (.mov (tt 0)),
     o 18 (.mov (tt 5)),
     o 19 (.idx 4 (tt 17) (tt 18)),
     o 20 (.load true 4 (tt 19)),
     o 21 (.mov (tt 1)),
     o 22 (.mov (tt 5)),
     o 23 (.idx 4 (tt 21) (tt 22)),
     o 24 (.load true 4 (tt 23)),
     o 25 (.call 81 [(tt 20), (tt 24)]),
     o 26 (.un .not (tt 25))])
   (.cond (tt 26)
    (.seq
    (.reg [] [o 4 (.mov (cb false))])
    .ret)
    .skip)))
  (.reg [15, 16] [o 15 (.mov (tt 5)),
    o 16 (.bin .add (tt 15) (ci 1)),
    o 5 (.mov (tt 16))])))
def ir43_T2 : Ir :=
  (.seq
  (.reg [] [o 4 (.mov (cb true))])
  .ret)
def ir43 : Ir :=
  (.seq
  (.reg [] [o 4 (.mov (cb false))])
  (.seq
  (.seq
  (.reg [6, 7, 8, 9] [o 6 (.mov (tt 0)),
    o 7 (.len (tt 6)),
    o 8 (.mov (tt 1)),
    o 9 (.len (tt 8)),
    o 10 (.bin .neq (tt 7) (tt 9))])
  (.cond (tt 10)
   (.seq
   (.reg [] [o 4 (.mov (cb false))])
   .ret)
   .skip))
  (.seq
  (.seq
  (.reg [] [o 5 (.mov (ci 0))])
  (.block 0
   (.loop ir43_L1)))
  ir43_T2)))
def keep43 : List Nat := [0, 1, 4, 5, 10, 14, 26]
def res43 : List RI := [.tmp 4]
theorem chk43 : chk Try.prog 43 2 keep43 = some (ir43, res43) := by kernel_rfl
def ir44_L1 : Ir :=
  (.seq
  (.seq
  (.reg [6, 7, 8] [o 6 (.mov (tt 5)),
    o 7 (.mov (tt 0)),
    o 8 (.len (tt 7)),
    o 9 (.bin .lss (tt 6) (tt 8))])
  (.cond (tt 9)
   .skip
   (.exit 0)))
  (.seq
  (.block 1
   (.seq
   (.reg [12, 13, 14, 15, 16] [o 12 (.mov (tt 0)),
     o 13 (.mov (tt 5)),
     o 14 (.mov (tt 1)),
     o 15 (.idx 4 (tt 12) (tt 13)),
     o 16 (.fadr 0 (tt 15)),
     on (.store 1 (tt 16) (tt 14))])
   (.seq
   (.reg [17, 18] [o 17 (.mov (tt 1)),
     o 18 (.bin .add (tt 17) (ci 1)),
     o 1 (.mov (tt 18))])
   (.seq
   (.reg [19, 20, 21, 22, 23, 24, 25] [o 19 (.mov (tt 0)),
     o 20 (.mov (tt 5)),
     o 21 (.mov (tt 1)),
     o 22 (.bin .rem (tt 21) (ci 3)),
     o 23 (.bin .eql (tt 22) (ci 0)),
     o 24 (.idx 4 (tt 19) (tt 20)),
     o 25 (.fadr 1 (tt 24)),
     on (.store 1 (tt 25) (tt 23))])
   (.seq
   (.reg [26, 27] [o 26 (.mov (tt 1)),
     o 27 (.bin .add (tt 26) (ci 1)),
     o 1 (.mov (tt 27))])
   (.seq
   (.reg [28, 29, 30, 31, 32] [o 28 (.mov (tt 0)),
     o 29 (.mov (tt 5)),
     o 30 (.mov (tt 1)),
     o 31 (.idx 4 (tt 28) (tt 29)),
     o 32 (.fadr 2 (tt 31)),
     on (.store 1 (tt 32) (tt 30))])
   (.seq
   (.reg [33, 34] [o 33 (.mov (tt 1)),
     o 34 (.bin .add (tt 33) (ci 1)),
     o 1 (.mov (tt 34))])
   (.seq
   (.reg [35, 36, 37, 38, 39] [o 35 (.mov (tt 0)),
     o 36 (.mov (tt 5)),
     o 37 (.mov (tt 1)),
     o 38 (.idx 4 (tt 35) (tt 36)),
     o 39 (.fadr 3 (tt 38)),
     on (.store 1 (tt 39) (tt 37))])
   (.reg [40, 41] [o 40 (.mov (tt 1)),
     o 41 (.bin .add (tt 40) (ci 1)),
     o 1 (.mov (tt 41))])))))))))
  (.reg [10, 11] [o 10 (.mov (tt 5)),
    o 11 (.bin .add (tt 10) (ci 1)),
    o 5 (.mov (tt 11))])))
def ir44_T2 : Ir :=
  (.seq
  (.reg [42] [o 42 (.mov (tt 1)),
    o 4 (.mov (tt 42))])
  .ret)
def ir44 : Ir :=
  (.seq
  (.reg [] [o 4 (.mov (ci 0))])
  (.seq
  (.seq
  (.reg [] [o 5 (.mov (ci 0))])
  (.block 0
   (.loop ir44_L1)))
  ir44_T2))
def keep44 : List Nat := [0, 1, 4, 5, 9]
def res44 : List RI := [.tmp 4]
theorem chk44 : chk Try.prog 44 2 keep44 = some (ir44, res44) := by kernel_rfl
def ir10 : Ir :=
  (.seq
  (.reg [] [o 2 (.box 2 (tt 0)),
    o 4 (.mov (cb false))])
  (.seq
  (.reg [] [o 5 (.mov (ci 1048576))])
  (.seq
  (.reg [23, 24, 25] [o 23 (.load true 2 (tt 2)),
    o 24 (.mov (tt 5)),
    o 25 (.call 32 [(tt 23), (tt 24)]),
    o 5 (.mov (tt 25))])
  (.seq
  (.seq
  (.reg [26] [o 26 (.mov (tt 5)),
    o 27 (.bin .lss (tt 26) (ci 0))])
  (.cond (tt 27)
   (.seq
   (.reg [] [o 4 (.mov (cb true))])
   .ret)
   .skip))
  (.seq
  (.reg [28, 29, 30] [o 28 (.mov (tt 1)),
    o 29 (.mov (tt 5)),
    o 30 (.call 39 [(tt 28), (tt 29)]),
    o 5 (.mov (tt 30))])
  (.seq
  (.seq
  (.reg [31] [o 31 (.mov (tt 5)),
    o 32 (.bin .lss (tt 31) (ci 0))])
  (.cond (tt 32)
   (.seq
   (.reg [] [o 4 (.mov (cb true))])
   .ret)
   .skip))
  (.seq
  (.reg [34, 35, 36, 37, 38, 33, 39, 40, 41, 42] [o 34 (.load true 2 (tt 2)),
    o 35 (.call 34 [(tt 34)]),
    o 36 (.mov (tt 1)),
    o 37 (.call 41 [(tt 36)]),
    o 38 (.call 40 [(tt 35), (tt 37)]),
    o 33 (.mov (tt 38)),
    o 39 (.ext (tt 33) 0),
    o 40 (.ext (tt 33) 1),
    o 41 (.ext (tt 33) 2),
    o 42 (.ext (tt 33) 3),
    o 6 (.alloc [(.slice none 0 0), (.slice none 0 0)]),
    on (.store 2 (tt 6) (tt 39)),
    o 7 (.mov (tt 40)),
    o 8 (.mov (tt 41)),
    o 9 (.mov (tt 42))])
  (.seq
  (.reg [43, 44] [o 43 (.load true 2 (tt 2)),
    o 44 (.call 34 [(tt 43)]),
    o 10 (.alloc [(.slice none 0 0), (.slice none 0 0)]),
    on (.store 2 (tt 10) (tt 44))])
  (.seq
  (.reg [45, 46] [o 45 (.mov (tt 1)),
    o 46 (.call 41 [(tt 45)]),
    o 11 (.mov (tt 46))])
  (.seq
  (.reg [48, 49, 50, 47, 51, 52, 53, 54] [o 48 (.load true 2 (tt 10)),
    o 49 (.mov (tt 11)),
    o 50 (.call 42 [(tt 48), (tt 49)]),
    o 47 (.mov (tt 50)),
    o 51 (.ext (tt 47) 0),
    o 52 (.ext (tt 47) 1),
    o 53 (.ext (tt 47) 2),
    o 54 (.ext (tt 47) 3),
    o 12 (.alloc [(.slice none 0 0), (.slice none 0 0)]),
    on (.store 2 (tt 12) (tt 51)),
    o 13 (.mov (tt 52)),
    o 14 (.mov (tt 53)),
    o 15 (.mov (tt 54))])
  (.seq
  (.seq
  (.reg [55, 56, 57, 58, 59, 60, 61, 62, 63, 64, 65, 66, 67, 68, 69, 70, 71, 72, 73, 74] [o 55 (.load true 2 (tt 12)),
    o 56 (.load true 2 (tt 6)),
    o 57 (.call 36 [(tt 55), (tt 56)]),
    o 58 (.un .not (tt 57)),
    o 59 (.mov (tt 58)),
    og 60 59 false (.mov (tt 13)),
    og 61 59 false (.mov (tt 7)),
    og 62 59 false (.call 19 [(tt 60), (tt 61)]),
    og 63 59 false (.un .not (tt 62)),
    o 64 (.pick (tt 59) (cb true) (tt 63)),
    o 65 (.mov (tt 64)),
    og 66 65 false (.mov (tt 14)),
    og 67 65 false (.mov (tt 8)),
    og 68 65 false (.call 19 [(tt 66), (tt 67)]),
    og 69 65 false (.un .not (tt 68)),
    o 70 (.pick (tt 65) (cb true) (tt 69)),
    o 71 (.mov (tt 70)),
    og 72 71 false (.mov (tt 15)),
    og 73 71 false (.mov (tt 9)),
    og 74 71 false (.binB .neq (tt 72) (tt 73)),
    o 75 (.pick (tt 71) (cb true) (tt 74))])
  (.cond (tt 75)
   (.seq
   (.reg [] [o 4 (.mov (cb false))])
   .ret)
   .skip))
  (.seq
  (.seq
  (.dreg [76, 77, 78, 79] [0, 0, 2, 7, 15] [(0, 1076), (0, 2076), (1, 1077), (1, 2077), (2, 1078), (2, 2078), (2, 3078), (2, 4078), (2, 5078), (2, 6078), (2, 7078), (2, 8078), (3, 1079), (3, 2079), (3, 3079), (3, 4079), (3, 5079), (3, 6079), (3, 7079), (3, 8079)] [o 76 (.load true 2 (tt 10)),
    o 77 (.load true 2 (tt 2)),
    o 78 (.call 34 [(tt 77)]),
    o 79 (.call 36 [(tt 76), (tt 78)]),
    o 80 (.un .not (tt 79))])
  (.cond (tt 80)
   (.seq
   (.reg [] [o 4 (.mov (cb false))])
   .ret)
   .skip))
  (.seq
  (.seq
  (.reg [81, 82, 83, 84] [o 81 (.mov (tt 11)),
    o 82 (.mov (tt 1)),
    o 83 (.call 41 [(tt 82)]),
    o 84 (.call 43 [(tt 81), (tt 83)]),
    o 85 (.un .not (tt 84))])
  (.cond (tt 85)
   (.seq
   (.reg [] [o 4 (.mov (cb false))])
   .ret)
   .skip))
  (.seq
  (.reg [] [o 16 (.mov (ci 1))])
  (.seq
  (.reg [86, 87, 88] [o 86 (.load true 2 (tt 10)),
    o 87 (.mov (tt 16)),
    o 88 (.call 37 [(tt 86), (tt 87)]),
    o 16 (.mov (tt 88))])
  (.seq
  (.reg [89, 90, 91] [o 89 (.mov (tt 11)),
    o 90 (.mov (tt 16)),
    o 91 (.call 44 [(tt 89), (tt 90)]),
    o 16 (.mov (tt 91))])
  (.seq
  (.seq
  (.reg [92, 93, 94, 95, 96, 97, 98, 99, 100, 101, 102, 103, 104, 105, 106, 107, 108, 109, 110, 111, 112, 113, 114, 115] [o 92 (.mov (tt 16)),
    o 93 (.bin .lss (tt 92) (ci 0)),
    o 94 (.mov (tt 93)),
    og 95 94 false (.load true 2 (tt 12)),
    og 96 94 false (.load true 2 (tt 6)),
    og 97 94 false (.call 36 [(tt 95), (tt 96)]),
    og 98 94 false (.un .not (tt 97)),
    o 99 (.pick (tt 94) (cb true) (tt 98)),
    o 100 (.mov (tt 99)),
    og 101 100 false (.mov (tt 13)),
    og 102 100 false (.mov (tt 7)),
    og 103 100 false (.call 19 [(tt 101), (tt 102)]),
    og 104 100 false (.un .not (tt 103)),
    o 105 (.pick (tt 100) (cb true) (tt 104)),
    o 106 (.mov (tt 105)),
    og 107 106 false (.mov (tt 14)),
    og 108 106 false (.mov (tt 8)),
    og 109 106 false (.call 19 [(tt 107), (tt 108)]),
    og 110 106 false (.un .not (tt 109)),
    o 111 (.pick (tt 106) (cb true) (tt 110)),
    o 112 (.mov (tt 111)),
    og 113 112 false (.mov (tt 15)),
    og 114 112 false (.mov (tt 9)),
    og 115 112 false (.binB .neq (tt 113) (tt 114)),
    o 116 (.pick (tt 112) (cb true) (tt 115))])
  (.cond (tt 116)
   (.seq
   (.reg [] [o 4 (.mov (cb false))])
   .ret)
   .skip))
  (.seq
  (.reg [] [o 17 (.mov (ci 1))])
  (.seq
  (.reg [117, 118, 119] [o 117 (.load true 2 (tt 12)),
    o 118 (.mov (tt 17)),
    o 119 (.call 37 [(tt 117), (tt 118)]),
    o 17 (.mov (tt 119))])
  (.seq
  (.reg [120, 121, 122] [o 120 (.mov (tt 13)),
    o 121 (.mov (tt 17)),
    o 122 (.call 26 [(tt 120), (tt 121)]),
    o 17 (.mov (tt 122))])
  (.seq
  (.reg [123, 124, 125] [o 123 (.mov (tt 14)),
    o 124 (.mov (tt 17)),
    o 125 (.call 26 [(tt 123), (tt 124)]),
    o 17 (.mov (tt 125))])
  (.seq
  (.reg [] [o 18 (.mov (ci 1))])
  (.seq
  (.reg [126, 127, 128] [o 126 (.load true 2 (tt 12)),
    o 127 (.mov (tt 18)),
    o 128 (.call 38 [(tt 126), (tt 127)]),
    o 18 (.mov (tt 128))])
  (.seq
  (.seq
  (.reg [129] [o 129 (.mov (tt 18)),
    o 130 (.bin .lss (tt 129) (ci 0))])
  (.cond (tt 130)
   (.seq
   (.reg [] [o 4 (.mov (cb false))])
   .ret)
   .skip))
  (.seq
  (.reg [131, 132, 133] [o 131 (.mov (tt 13)),
    o 132 (.mov (tt 18)),
    o 133 (.call 27 [(tt 131), (tt 132)]),
    o 18 (.mov (tt 133))])
  (.seq
  (.seq
  (.reg [134] [o 134 (.mov (tt 18)),
    o 135 (.bin .lss (tt 134) (ci 0))])
  (.cond (tt 135)
   (.seq
   (.reg [] [o 4 (.mov (cb false))])
   .ret)
   .skip))
  (.seq
  (.reg [136, 137, 138] [o 136 (.mov (tt 14)),
    o 137 (.mov (tt 18)),
    o 138 (.call 27 [(tt 136), (tt 137)]),
    o 18 (.mov (tt 138))])
  (.seq
  (.seq
  (.reg [139] [o 139 (.mov (tt 18)),
    o 140 (.bin .lss (tt 139) (ci 0))])
  (.cond (tt 140)
   (.seq
   (.reg [] [o 4 (.mov (cb false))])
   .ret)
   .skip))
  (.seq
  (.seq
  (.reg [141, 142] [o 141 (.mov (tt 18)),
    o 142 (.mov (tt 17)),
    o 143 (.bin .neq (tt 141) (tt 142))])
  (.cond (tt 143)
   (.seq
   (.reg [] [o 4 (.mov (cb false))])
   .ret)
   .skip))
  (.seq
  (.reg [145, 146, 147, 148, 149, 144, 150, 151, 152, 153] [o 145 (.load true 2 (tt 2)),
    o 146 (.call 34 [(tt 145)]),
    o 147 (.mov (tt 1)),
    o 148 (.call 41 [(tt 147)]),
    o 149 (.call 42 [(tt 146), (tt 148)]),
    o 144 (.mov (tt 149)),
    o 150 (.ext (tt 144) 0),
    o 151 (.ext (tt 144) 1),
    o 152 (.ext (tt 144) 2),
    o 153 (.ext (tt 144) 3),
    o 19 (.alloc [(.slice none 0 0), (.slice none 0 0)]),
    on (.store 2 (tt 19) (tt 150)),
    o 20 (.mov (tt 151)),
    o 21 (.mov (tt 152)),
    o 22 (.mov (tt 153))])
  (.seq
  (.seq
  (.reg [154, 155, 156, 157, 158, 159, 160, 161, 162, 163, 164, 165, 166, 167, 168, 169, 170, 171, 172, 173] [o 154 (.load true 2 (tt 19)),
    o 155 (.load true 2 (tt 6)),
    o 156 (.call 36 [(tt 154), (tt 155)]),
    o 157 (.un .not (tt 156)),
    o 158 (.mov (tt 157)),
    og 159 158 false (.mov (tt 20)),
    og 160 158 false (.mov (tt 7)),
    og 161 158 false (.call 19 [(tt 159), (tt 160)]),
    og 162 158 false (.un .not (tt 161)),
    o 163 (.pick (tt 158) (cb true) (tt 162)),
    o 164 (.mov (tt 163)),
    og 165 164 false (.mov (tt 21)),
    og 166 164 false (.mov (tt 8)),
    og 167 164 false (.call 19 [(tt 165), (tt 166)]),
    og 168 164 false (.un .not (tt 167)),
    o 169 (.pick (tt 164) (cb true) (tt 168)),
    o 170 (.mov (tt 169)),
    og 171 170 false (.mov (tt 22)),
    og 172 170 false (.mov (tt 9)),
    og 173 170 false (.binB .neq (tt 171) (tt 172)),
    o 174 (.pick (tt 170) (cb true) (tt 173))])
  (.cond (tt 174)
   (.seq
   (.reg [] [o 4 (.mov (cb false))])
   .ret)
   .skip))
  (.seq
  (.reg [] [o 18 (.mov (ci 1))])
  (.seq
  (.reg [175, 176, 177] [o 175 (.load true 2 (tt 12)),
    o 176 (.mov (tt 18)),
    o 177 (.call 38 [(tt 175), (tt 176)]),
    o 18 (.mov (tt 177))])
  (.seq
  (.seq
  (.reg [178] [o 178 (.mov (tt 18)),
    o 179 (.bin .lss (tt 178) (ci 0))])
  (.cond (tt 179)
   (.seq
   (.reg [] [o 4 (.mov (cb false))])
   .ret)
   .skip))
  (.seq
  (.reg [180, 181, 182] [o 180 (.mov (tt 13)),
    o 181 (.mov (tt 18)),
    o 182 (.call 27 [(tt 180), (tt 181)]),
    o 18 (.mov (tt 182))])
  (.seq
  (.seq
  (.reg [183] [o 183 (.mov (tt 18)),
    o 184 (.bin .lss (tt 183) (ci 0))])
  (.cond (tt 184)
   (.seq
   (.reg [] [o 4 (.mov (cb false))])
   .ret)
   .skip))
  (.seq
  (.reg [185, 186, 187] [o 185 (.mov (tt 14)),
    o 186 (.mov (tt 18)),
    o 187 (.call 27 [(tt 185), (tt 186)]),
    o 18 (.mov (tt 187))])
  (.seq
  (.seq
  (.reg [188] [o 188 (.mov (tt 18)),
    o 189 (.bin .lss (tt 188) (ci 0))])
  (.cond (tt 189)
   (.seq
   (.reg [] [o 4 (.mov (cb false))])
   .ret)
   .skip))
  (.seq
  (.seq
  (.reg [190, 191] [o 190 (.mov (tt 18)),
    o 191 (.mov (tt 17)),
    o 192 (.bin .neq (tt 190) (tt 191))])
  (.cond (tt 192)
   (.seq
   (.reg [] [o 4 (.mov (cb false))])
   .ret)
   .skip))
  (.seq
  (.reg [] [o 4 (.mov (cb true))])
  .ret))))))))))))))))))))))))))))))))))))))))
def keep10 : List Nat := [0, 1, 2, 4, 5, 6, 7, 8, 9, 10, 11, 12, 13, 14, 15, 16, 17, 18, 19, 20, 21, 22, 27, 32, 75, 80, 85, 116, 130, 135, 140, 143, 174, 179, 184, 189, 192]
def res10 : List RI := [.tmp 4]
theorem chk10 : chk Try.prog 10 2 keep10 = some (ir10, res10) := by kernel_rfl

abbrev UA (u : Us) : AV := .ag [AI u.a, AB u.w, AI u.v, AI u.l]
theorem allV_UB {U : List Us} {n : Nat} : allV 4 n (UB U) := fun i j _ hj => by
  match j, hj with
  | 0, _ => rfl
  | 1, _ => rfl
  | 2, _ => rfl
  | 3, _ => rfl
def in_szU (nn : Bool) (U : List Us) (l : Int) := (G0, res39, ([] : List (Nat × Ob)), [Item.ir ir39], start [UL nn U, AI l] [])
theorem ev_szU : ∀ (nn : Bool) (U : List Us) (l : Int), ev G0 res39 [] (3000 : Nat) (Or.nil.split Or.nil) [Item.ir ir39] (start [UL nn U, AI l] []) = VC.split (decide (IntKind.i64.wrap (l - (↑U.length : Int)) < (0 : Int))) (VC.doneP (AV.p true (PV.v (Value.int IntKind.i64 (-1 : Int))))) (VC.doneP (AV.p true (PV.v (Value.int IntKind.i64 (IntKind.i64.wrap (l - (↑U.length : Int))))))) := by intros; kernel_rfl
theorem c_szU (nn : Bool) (U : List Us) (l : Int) (hS : U.length ≤ maxLen) (hl0 : 0 ≤ l) (hl : l ≤ 1048576) : PSome Try.prog G0 39 [UL nn U, AI l] [] Int (fun r => r = -1 ∨ (0 ≤ r ∧ r + U.length = l)) (fun r => AI r) (fun _ => []) := by
  refine PCall.by chk39 rfl (ev_szU nn U l) ?_
  simp only [VC.holds_split, VC.holds_need, VC.holds_doneP, VC.holds_done, VC.holds_either, VC.holds_call, VC.holds_callE, VC.holds_lend, VC.holds_stop, VC.holds_fail, decide_eq_true_eq, decide_eq_false_iff_not]
  have hx : maxLen = 9223372036854775807 := rfl
  have w1 : IntKind.i64.wrap (l - (U.length : Int)) = l - U.length := wrap_in (by omega) (by omega)
  rw [w1]
  exact ⟨fun h => ⟨-1, .inl rfl, rfl, trivial⟩, fun h => ⟨l - U.length, .inr ⟨by omega, by omega⟩, rfl, trivial⟩⟩
def in_toU (b : Us) := (G0, res80, ([] : List (Nat × Ob)), [Item.ir ir80], start [UA b] [])
theorem ev_toU : ∀ (b : Us), ev G0 res80 [] (3000 : Nat) Or.nil [Item.ir ir80] (start [UA b] []) = VC.doneP (AV.ag [AV.p true (PV.v (Value.int IntKind.i64 b.a)), AV.p true (PV.v (Value.bool b.w)), AV.p true (PV.v (Value.int IntKind.i64 b.v)), AV.p true (PV.v (Value.int IntKind.i64 b.l))]) := by intros; kernel_rfl
theorem c_toU (b : Us) : PRet Try.prog G0 80 [UA b] (UA b) := by
  refine PRet.by chk80 (ev_toU b) ?_
  simp only [VC.holds_split, VC.holds_need, VC.holds_doneP, VC.holds_done, VC.holds_either, VC.holds_call, VC.holds_callE, VC.holds_lend, VC.holds_stop, VC.holds_fail, decide_eq_true_eq, decide_eq_false_iff_not]
  simp
def cutU (S : List Us) (k : Nat) : Nat → Nat → PV := fun i c => if i < k then UB S i c else u0.col c
def in_toUS (nn : Bool) (S : List Us) := (G0, res41, ([] : List (Nat × Ob)), [Item.ir ir41], start [UL nn S] [])
theorem ev_toUS : ∀ (nn : Bool) (S : List Us), ev G0 res41 [] (3000 : Nat) Or.nil [Item.ir ir41] (start [UL nn S] []) = VC.need ((0 : Int) ≤ (↑S.length : Int) ∧ (↑S.length : Int) ≤ (↑S.length : Int) ∧ (↑(32 : Nat) : Int) * (↑S.length : Int) ≤ (281474976710656 : Int) ∧ (↑S.length : Int) ≤ (9223372036854775807 : Int)) (VC.loop ir41_L1 [Item.bend (0 : Nat), Item.ir ir41_T2] (St.mk [((0 : Nat), AV.p false (PV.sl nn (4 : Nat) S.length (UB S))), ((2 : Nat), AV.p true (PV.v (Value.slice none (0 : Nat) (0 : Nat)))), ((3 : Nat), AV.own (7 : Nat)), ((4 : Nat), AV.p true (PV.v (Value.int IntKind.i64 (0 : Int))))] [((7 : Nat), Ob.row Mode.u true (4 : Nat) (↑S.length : Int).toNat (fun (x j : Nat) => PV.v ([Value.int IntKind.i64 (0 : Int), Value.bool false, Value.int IntKind.i64 (0 : Int), Value.int IntKind.i64 (0 : Int)].getD j undef)) [])])) := by intros; kernel_rfl
def st_toUS (nn : Bool) (S : List Us) (k : Nat) : St := ⟨[(0, UL nn S), (3, .own 7), (4, AI k)], [(7, .row .u true 4 S.length (cutU S k) [])]⟩
def r_toUS (nn : Bool) (S : List Us) (I : Nat → St → Prop) (k : Nat) := (G0, res41, ([] : List (Nat × Ob)), [Item.ir ir41_L1, .lend (I k), Item.bend 0, Item.ir ir41_T2], st_toUS nn S k)
theorem evr_toUS : ∀ (nn : Bool) (S : List Us) (I : Nat → St → Prop) (k : Nat), ev G0 res41 [] (3000 : Nat) ((Or.call [] (UA (S.getD (↑k : Int).toNat u0)) [] Or.nil).split Or.nil) [Item.ir ir41_L1, Item.lend (I k), Item.bend (0 : Nat), Item.ir ir41_T2] (st_toUS nn S k) = VC.split (decide ((↑k : Int) < (↑S.length : Int))) (VC.need ((0 : Int) ≤ (↑k : Int) ∧ (↑k : Int).toNat < S.length) (VC.call (80 : Nat) [AV.ag [AV.p true (PV.v (Value.int IntKind.i64 (S.getD (↑k : Int).toNat u0).a)), AV.p true (PV.v (Value.bool (S.getD (↑k : Int).toNat u0).w)), AV.p true (PV.v (Value.int IntKind.i64 (S.getD (↑k : Int).toNat u0).v)), AV.p true (PV.v (Value.int IntKind.i64 (S.getD (↑k : Int).toNat u0).l))]] [] (UA (S.getD (↑k : Int).toNat u0)) [] (VC.need ((0 : Int) ≤ (↑k : Int) ∧ (↑k : Int).toNat < S.length) (VC.need ((↑k : Int).toNat < S.length) (VC.lend (I k) (St.mk [((0 : Nat), AV.p false (PV.sl nn (4 : Nat) S.length (UB S))), ((3 : Nat), AV.own (7 : Nat)), ((4 : Nat), AV.p true (PV.v (Value.int IntKind.i64 (IntKind.i64.wrap ((↑k : Int) + (1 : Int)))))), ((11 : Nat), AV.p true (PV.v (Value.bool (decide ((↑k : Int) < (↑S.length : Int))))))] [((7 : Nat), Ob.row Mode.u true (4 : Nat) S.length (setG [((↑k : Int).toNat, (0 : Nat), PV.v (Value.int IntKind.i64 (S.getD (↑k : Int).toNat u0).a)), ((↑k : Int).toNat, (1 : Nat), PV.v (Value.bool (S.getD (↑k : Int).toNat u0).w)), ((↑k : Int).toNat, (2 : Nat), PV.v (Value.int IntKind.i64 (S.getD (↑k : Int).toNat u0).v)), ((↑k : Int).toNat, (3 : Nat), PV.v (Value.int IntKind.i64 (S.getD (↑k : Int).toNat u0).l))] (cutU S k)) [])])))))) (VC.done (St.mk [((0 : Nat), AV.p false (PV.sl nn (4 : Nat) S.length (UB S))), ((3 : Nat), AV.own (7 : Nat)), ((4 : Nat), AV.p true (PV.v (Value.int IntKind.i64 (↑k : Int)))), ((11 : Nat), AV.p true (PV.v (Value.bool (decide ((↑k : Int) < (↑S.length : Int)))))), ((2 : Nat), AV.own (7 : Nat))] [((7 : Nat), Ob.row Mode.u true (4 : Nat) S.length (cutU S k) [])])) := by intros; kernel_rfl
def in_eqU (b : Us) := (G0, res81, ([] : List (Nat × Ob)), [Item.ir ir81], start [UA b, UA b] [])
theorem ev_eqU : ∀ (b : Us), ev G0 res81 [] (3000 : Nat) (Or.nil.split (Or.nil.split (Or.nil.split (Or.nil.split Or.nil)))) [Item.ir ir81] (start [UA b, UA b] []) = VC.split (b.a != b.a) (VC.doneP (AV.p true (PV.v (Value.bool false)))) (VC.split (!b.w == b.w) (VC.doneP (AV.p true (PV.v (Value.bool false)))) (VC.split (b.v != b.v) (VC.doneP (AV.p true (PV.v (Value.bool false)))) (VC.split (b.l != b.l) (VC.doneP (AV.p true (PV.v (Value.bool false)))) (VC.doneP (AV.p true (PV.v (Value.bool true))))))) := by intros; kernel_rfl
theorem c_eqU (b : Us) : PRet Try.prog G0 81 [UA b, UA b] (AB true) := by
  refine PRet.by chk81 (ev_eqU b) ?_
  simp only [VC.holds_split, VC.holds_need, VC.holds_doneP, VC.holds_done, VC.holds_either, VC.holds_call, VC.holds_callE, VC.holds_lend, VC.holds_stop, VC.holds_fail, decide_eq_true_eq, decide_eq_false_iff_not]
  simp
def in_eqUS (nn nn' : Bool) (S : List Us) := (G0, res43, ([] : List (Nat × Ob)), [Item.ir ir43], start [UL nn S, UL nn' S] [])
theorem ev_eqUS : ∀ (nn nn' : Bool) (S : List Us), ev G0 res43 [] (3000 : Nat) (Or.nil.split Or.nil) [Item.ir ir43] (start [UL nn S, UL nn' S] []) = VC.split ((↑S.length : Int) != (↑S.length : Int)) (VC.doneP (AV.p true (PV.v (Value.bool false)))) (VC.loop ir43_L1 [Item.bend (0 : Nat), Item.ir ir43_T2] (St.mk [((0 : Nat), AV.p false (PV.sl nn (4 : Nat) S.length (UB S))), ((1 : Nat), AV.p false (PV.sl nn' (4 : Nat) S.length (UB S))), ((4 : Nat), AV.p true (PV.v (Value.bool false))), ((10 : Nat), AV.p true (PV.v (Value.bool ((↑S.length : Int) != (↑S.length : Int))))), ((5 : Nat), AV.p true (PV.v (Value.int IntKind.i64 (0 : Int))))] [])) := by intros; kernel_rfl
def st_eqUS (nn nn' : Bool) (S : List Us) (k : Nat) : St := ⟨[(0, UL nn S), (1, UL nn' S), (5, AI k)], []⟩
def r_eqUS (nn nn' : Bool) (S : List Us) (I : Nat → St → Prop) (k : Nat) := (G0, res43, ([] : List (Nat × Ob)), [Item.ir ir43_L1, .lend (I k), Item.bend 0, Item.ir ir43_T2], st_eqUS nn nn' S k)
theorem evr_eqUS : ∀ (nn nn' : Bool) (S : List Us) (I : Nat → St → Prop) (k : Nat), ev G0 res43 [] (3000 : Nat) ((Or.call [] (AB true) [] Or.nil.lit).split Or.nil) [Item.ir ir43_L1, Item.lend (I k), Item.bend (0 : Nat), Item.ir ir43_T2] (st_eqUS nn nn' S k) = VC.split (decide ((↑k : Int) < (↑S.length : Int))) (VC.need ((0 : Int) ≤ (↑k : Int) ∧ (↑k : Int).toNat < S.length) (VC.need ((0 : Int) ≤ (↑k : Int) ∧ (↑k : Int).toNat < S.length) (VC.call (81 : Nat) [AV.ag [AV.p true (PV.v (Value.int IntKind.i64 (S.getD (↑k : Int).toNat u0).a)), AV.p true (PV.v (Value.bool (S.getD (↑k : Int).toNat u0).w)), AV.p true (PV.v (Value.int IntKind.i64 (S.getD (↑k : Int).toNat u0).v)), AV.p true (PV.v (Value.int IntKind.i64 (S.getD (↑k : Int).toNat u0).l))], AV.ag [AV.p true (PV.v (Value.int IntKind.i64 (S.getD (↑k : Int).toNat u0).a)), AV.p true (PV.v (Value.bool (S.getD (↑k : Int).toNat u0).w)), AV.p true (PV.v (Value.int IntKind.i64 (S.getD (↑k : Int).toNat u0).v)), AV.p true (PV.v (Value.int IntKind.i64 (S.getD (↑k : Int).toNat u0).l))]] [] (AB true) [] (VC.lend (I k) (St.mk [((0 : Nat), AV.p false (PV.sl nn (4 : Nat) S.length (UB S))), ((1 : Nat), AV.p false (PV.sl nn' (4 : Nat) S.length (UB S))), ((5 : Nat), AV.p true (PV.v (Value.int IntKind.i64 (IntKind.i64.wrap ((↑k : Int) + (1 : Int)))))), ((14 : Nat), AV.p true (PV.v (Value.bool (decide ((↑k : Int) < (↑S.length : Int)))))), ((26 : Nat), AV.p true (PV.v (Value.bool false)))] []))))) (VC.doneP (AV.p true (PV.v (Value.bool true)))) := by intros; kernel_rfl
def MU (v : Int) : Nat → Nat → PV := fun i c => match c with
  | 0 => PI (v + 4 * (i : Int))
  | 1 => .v (.bool ((v + 4 * (i : Int) + 1).tmod 3 == 0))
  | 2 => PI (v + 4 * (i : Int) + 2)
  | _ => PI (v + 4 * (i : Int) + 3)
def mkU (g : Nat → Nat → PV) (v : Int) (k : Nat) : Nat → Nat → PV := fun i c => if i < k then MU v i c else g i c
def in_mkUS (nn : Bool) (n : Nat) (g : Nat → Nat → PV) (v : Int) := (G0, res44, [(0, Ob.row .u nn 4 n g [])], [Item.ir ir44], start [.own 0, AI v] [(0, Ob.row .u nn 4 n g [])])
theorem ev_mkUS : ∀ (nn : Bool) (n : Nat) (g : Nat → Nat → PV) (v : Int), ev G0 res44 [((0 : Nat), Ob.row Mode.u nn (4 : Nat) n g [])] (3000 : Nat) Or.nil [Item.ir ir44] (start [AV.own (0 : Nat), AI v] [((0 : Nat), Ob.row Mode.u nn (4 : Nat) n g [])]) = VC.loop ir44_L1 [Item.bend (0 : Nat), Item.ir ir44_T2] (St.mk [((0 : Nat), AV.own (100000 : Nat)), ((1 : Nat), AV.p true (PV.v (Value.int IntKind.i64 v))), ((4 : Nat), AV.p true (PV.v (Value.int IntKind.i64 (0 : Int)))), ((5 : Nat), AV.p true (PV.v (Value.int IntKind.i64 (0 : Int))))] [((100000 : Nat), Ob.row Mode.u nn (4 : Nat) n g [])]) := by intros; kernel_rfl
def st_mkUS (nn : Bool) (n : Nat) (g : Nat → Nat → PV) (v : Int) (k : Nat) : St := ⟨[(0, .own 100000), (1, AI (v + 4 * (k : Int))), (5, AI k)], [(100000, .row .u nn 4 n (mkU g v k) [])]⟩
def r_mkUS (nn : Bool) (n : Nat) (g : Nat → Nat → PV) (v : Int) (I : Nat → St → Prop) (k : Nat) := (G0, res44, [(0, Ob.row .u nn 4 n g [])], [Item.ir ir44_L1, .lend (I k), Item.bend 0, Item.ir ir44_T2], st_mkUS nn n g v k)
theorem evr_mkUS : ∀ (nn : Bool) (n : Nat) (g : Nat → Nat → PV) (v : Int) (I : Nat → St → Prop) (k : Nat), ev G0 res44 [((0 : Nat), Ob.row Mode.u nn (4 : Nat) n g [])] (3000 : Nat) (Or.nil.split Or.nil) [Item.ir ir44_L1, Item.lend (I k), Item.bend (0 : Nat), Item.ir ir44_T2] (st_mkUS nn n g v k) = VC.split (decide ((↑k : Int) < (↑n : Int))) (VC.need ((0 : Int) ≤ (↑k : Int) ∧ (↑k : Int).toNat < n) (VC.need ((↑k : Int).toNat < n) (VC.need ((3 : Int) ≠ (0 : Int)) (VC.need ((0 : Int) ≤ (↑k : Int) ∧ (↑k : Int).toNat < n) (VC.need ((↑k : Int).toNat < n) (VC.need ((0 : Int) ≤ (↑k : Int) ∧ (↑k : Int).toNat < n) (VC.need ((↑k : Int).toNat < n) (VC.need ((0 : Int) ≤ (↑k : Int) ∧ (↑k : Int).toNat < n) (VC.need ((↑k : Int).toNat < n) (VC.lend (I k) (St.mk [((0 : Nat), AV.own (100000 : Nat)), ((1 : Nat), AV.p true (PV.v (Value.int IntKind.i64 (IntKind.i64.wrap (IntKind.i64.wrap (IntKind.i64.wrap (IntKind.i64.wrap (v + (4 : Int) * (↑k : Int) + (1 : Int)) + (1 : Int)) + (1 : Int)) + (1 : Int)))))), ((5 : Nat), AV.p true (PV.v (Value.int IntKind.i64 (IntKind.i64.wrap ((↑k : Int) + (1 : Int)))))), ((9 : Nat), AV.p true (PV.v (Value.bool (decide ((↑k : Int) < (↑n : Int))))))] [((100000 : Nat), Ob.row Mode.u nn (4 : Nat) n (setG [((↑k : Int).toNat, (3 : Nat), PV.v (Value.int IntKind.i64 (IntKind.i64.wrap (IntKind.i64.wrap (IntKind.i64.wrap (v + (4 : Int) * (↑k : Int) + (1 : Int)) + (1 : Int)) + (1 : Int)))))] (setG [((↑k : Int).toNat, (2 : Nat), PV.v (Value.int IntKind.i64 (IntKind.i64.wrap (IntKind.i64.wrap (v + (4 : Int) * (↑k : Int) + (1 : Int)) + (1 : Int)))))] (setG [((↑k : Int).toNat, (1 : Nat), PV.v (Value.bool ((IntKind.i64.wrap (v + (4 : Int) * (↑k : Int) + (1 : Int))).tmod (3 : Int) == (0 : Int))))] (setG [((↑k : Int).toNat, (0 : Nat), PV.v (Value.int IntKind.i64 (v + (4 : Int) * (↑k : Int))))] (mkU g v k))))) [])]))))))))))) (VC.done (St.mk [((0 : Nat), AV.own (100000 : Nat)), ((1 : Nat), AV.p true (PV.v (Value.int IntKind.i64 (v + (4 : Int) * (↑k : Int))))), ((5 : Nat), AV.p true (PV.v (Value.int IntKind.i64 (↑k : Int)))), ((9 : Nat), AV.p true (PV.v (Value.bool (decide ((↑k : Int) < (↑n : Int)))))), ((4 : Nat), AV.p true (PV.v (Value.int IntKind.i64 (v + (4 : Int) * (↑k : Int)))))] [((100000 : Nat), Ob.row Mode.u nn (4 : Nat) n (mkU g v k) [])])) := by intros; kernel_rfl
theorem c_toUS (nn : Bool) (S : List Us) (hS : S.length ≤ 1048576) : PObj Try.prog G0 41 [UL nn S] [] (.own 0) [(0, .row .u false 4 S.length (UB S) [])] := by
  refine PObj.by chk41 rfl (ev_toUS nn S) ?_
  simp only [VC.holds_split, VC.holds_need, VC.holds_doneP, VC.holds_done, VC.holds_either, VC.holds_call, VC.holds_callE, VC.holds_lend, VC.holds_stop, VC.holds_fail, decide_eq_true_eq, decide_eq_false_iff_not]
  refine ⟨⟨by omega, by omega, by simp; omega, by omega⟩, loop_by (st_toUS nn S) (fun k => k ≤ S.length) (fun k => S.length - k) 0 [] [] [] (by omega) ?_ (evr_toUS nn S) fun k hk => ?_⟩
  · simp [st_toUS, hbs, St.lowers, St.lower, stLe, leEnv, leObs, obLe, injB, pinC, AV.leC, AV.leCs, PV.leC, PV.Le_v, St.get, St.obj, look, rho, isNew, keptC, renH, Mode.ok, Mode.isZ, PV.isVal, PV.isNilSl, List.all_nil, List.all_cons, List.any_nil, List.any_cons, List.map_nil, List.map_cons, PV.Le_self]
    intro i c hi hc
    match c, hc with
    | 0, _ => simp [cutU]; exact .refl _
    | 1, _ => simp [cutU]; exact .refl _
    | 2, _ => simp [cutU]; exact .refl _
    | 3, _ => simp [cutU]; exact .refl _
  · have ek : IntKind.i64.wrap ((k : Int) + 1) = ((k + 1 : Nat) : Int) := wrap_in (by omega) (by omega)
    simp only [VC.holds_split, VC.holds_need, VC.holds_doneP, VC.holds_done, VC.holds_either, VC.holds_call, VC.holds_callE, VC.holds_lend, VC.holds_stop, VC.holds_fail, decide_eq_true_eq, decide_eq_false_iff_not, Int.toNat_natCast]
    refine ⟨fun h0 => ⟨⟨by omega, by omega⟩, c_toU _, ⟨by omega, by omega⟩, by omega, Again.mk (k + 1) [] [] [] (by omega) (by omega) ?_⟩, fun h0 => ?_⟩
    · simp [st_toUS, hbs, St.lowers, St.lower, stLe, leEnv, leObs, obLe, injB, pinC, AV.leC, AV.leCs, PV.leC, PV.Le_v, St.get, St.obj, look, rho, isNew, keptC, renH, Mode.ok, Mode.isZ, PV.isVal, PV.isNilSl, List.all_nil, List.all_cons, List.any_nil, List.any_cons, List.map_nil, List.map_cons, PV.Le_self, ek]
      intro i c hi hc
      by_cases h1 : i = k
      · subst h1
        match c, hc with
        | 0, _ => simp [setG, cellSet, cutU]; exact .refl _
        | 1, _ => simp [setG, cellSet, cutU]; exact .refl _
        | 2, _ => simp [setG, cellSet, cutU]; exact .refl _
        | 3, _ => simp [setG, cellSet, cutU]; exact .refl _
      · have : (i < k + 1) = (i < k) := by apply propext; omega
        simp [setG, cellSet, cutU, h1, this]; exact .refl _
    · have : k = S.length := by omega
      subst this
      refine ResOk.mk [] [(0, 7)] [] _ _ ?_ ⟨rfl, rfl⟩
      simp [doneC, resOf, resAV, tup, pinR, PV.Le_self, hbs, St.lowers, St.lower, stLe, leEnv, leObs, obLe, injB, pinC, AV.leC, AV.leCs, PV.leC, PV.Le_v, St.get, St.obj, look, rho, isNew, keptC, renH, Mode.ok, Mode.isZ, PV.isVal, PV.isNilSl, List.all_nil, List.all_cons, List.any_nil, List.any_cons, List.map_nil, List.map_cons, res41]
      intro i c hi hc
      simp [cutU, hi]; exact .refl _
theorem c_eqUS (nn nn' : Bool) (S : List Us) (hS : S.length ≤ 1048576000) : PRet Try.prog G0 43 [UL nn S, UL nn' S] (AB true) := by
  refine PRet.by chk43 (ev_eqUS nn nn' S) ?_
  simp only [VC.holds_split, VC.holds_need, VC.holds_doneP, VC.holds_done, VC.holds_either, VC.holds_call, VC.holds_callE, VC.holds_lend, VC.holds_stop, VC.holds_fail, decide_eq_true_eq, decide_eq_false_iff_not]
  refine ⟨fun h => by simp at h, fun h => loop_by (st_eqUS nn nn' S) (fun k => k ≤ S.length) (fun k => S.length - k) 0 [] [] [] (by omega) ?_ (evr_eqUS nn nn' S) fun k hk => ?_⟩
  · simp [st_eqUS, hbs, St.lowers, St.lower, stLe, leEnv, leObs, obLe, injB, pinC, AV.leC, AV.leCs, PV.leC, PV.Le_v, St.get, St.obj, look, rho, isNew, keptC, renH, Mode.ok, Mode.isZ, PV.isVal, PV.isNilSl, List.all_nil, List.all_cons, List.any_nil, List.any_cons, List.map_nil, List.map_cons, PV.Le_self]
  · have ek : IntKind.i64.wrap ((k : Int) + 1) = ((k + 1 : Nat) : Int) := wrap_in (by omega) (by omega)
    simp only [VC.holds_split, VC.holds_need, VC.holds_doneP, VC.holds_done, VC.holds_either, VC.holds_call, VC.holds_callE, VC.holds_lend, VC.holds_stop, VC.holds_fail, decide_eq_true_eq, decide_eq_false_iff_not, Int.toNat_natCast]
    refine ⟨fun h => ⟨⟨by omega, by omega⟩, ⟨by omega, by omega⟩, c_eqU _, Again.mk (k + 1) [] [] [] (by omega) (by omega) ?_⟩, fun h => by simp⟩
    simp [st_eqUS, hbs, St.lowers, St.lower, stLe, leEnv, leObs, obLe, injB, pinC, AV.leC, AV.leCs, PV.leC, PV.Le_v, St.get, St.obj, look, rho, isNew, keptC, renH, Mode.ok, Mode.isZ, PV.isVal, PV.isNilSl, List.all_nil, List.all_cons, List.any_nil, List.any_cons, List.map_nil, List.map_cons, PV.Le_self, ek]
theorem c_mkUS (nn : Bool) (n : Nat) (g : Nat → Nat → PV) (v : Int) (hn : n ≤ 16777216) (hv1 : 0 ≤ v) (hv2 : v ≤ 1048576000) :
    PObj Try.prog G0 44 [.own 0, AI v] [(0, Ob.row .u nn 4 n g [])] (AI (v + 4 * (n : Int))) [(0, Ob.row .u nn 4 n (MU v) [])] := by
  refine PObj.by chk44 rfl (ev_mkUS nn n g v) ?_
  refine loop_by (st_mkUS nn n g v) (fun k => k ≤ n) (fun k => n - k) 0 [] [] [] (by omega) ?_ (evr_mkUS nn n g v) fun k hk => ?_
  · simp [st_mkUS, hbs, St.lowers, St.lower, stLe, leEnv, leObs, obLe, injB, pinC, AV.leC, AV.leCs, PV.leC, PV.Le_v, St.get, St.obj, look, rho, isNew, keptC, renH, Mode.ok, Mode.isZ, PV.isVal, PV.isNilSl, List.all_nil, List.all_cons, List.any_nil, List.any_cons, List.map_nil, List.map_cons, PV.Le_self, hbs]
    intro i c hi hc
    simp [mkU]; exact .refl _
  · have e1 : IntKind.i64.wrap ((k : Int) + 1) = ((k + 1 : Nat) : Int) := wrap_in (by omega) (by omega)
    have g1 : IntKind.i64.wrap (v + 4 * (k : Int) + 1) = v + 4 * (k : Int) + 1 := wrap_in (by omega) (by omega)
    have g2 : IntKind.i64.wrap (v + 4 * (k : Int) + 1 + 1) = v + 4 * (k : Int) + 2 := (wrap_in (by omega) (by omega)).trans (by omega)
    have g3 : IntKind.i64.wrap (v + 4 * (k : Int) + 2 + 1) = v + 4 * (k : Int) + 3 := (wrap_in (by omega) (by omega)).trans (by omega)
    have g4 : IntKind.i64.wrap (v + 4 * (k : Int) + 3 + 1) = v + 4 * ((k + 1 : Nat) : Int) := (wrap_in (by omega) (by omega)).trans (by omega)
    simp only [VC.holds_split, VC.holds_need, VC.holds_doneP, VC.holds_done, VC.holds_either, VC.holds_call, VC.holds_callE, VC.holds_lend, VC.holds_stop, VC.holds_fail, decide_eq_true_eq, decide_eq_false_iff_not, Int.toNat_natCast, g1, g2, g3, g4]
    refine ⟨fun h => ⟨⟨by omega, by omega⟩, by omega, by omega, ⟨by omega, by omega⟩, by omega, ⟨by omega, by omega⟩, by omega, ⟨by omega, by omega⟩, by omega, Again.mk (k + 1) [] [] [] (by omega) (by omega) ?_⟩, fun h => ?_⟩
    · simp [st_mkUS, hbs, St.lowers, St.lower, stLe, leEnv, leObs, obLe, injB, pinC, AV.leC, AV.leCs, PV.leC, PV.Le_v, St.get, St.obj, look, rho, isNew, keptC, renH, Mode.ok, Mode.isZ, PV.isVal, PV.isNilSl, List.all_nil, List.all_cons, List.any_nil, List.any_cons, List.map_nil, List.map_cons, PV.Le_self, e1, hbs]
      intro i c hi hc
      by_cases h1 : i = k
      · subst h1
        match c, hc with
        | 0, _ => simp [setG, cellSet, mkU, MU]; exact .refl _
        | 1, _ => simp [setG, cellSet, mkU, MU]; exact .refl _
        | 2, _ => simp [setG, cellSet, mkU, MU]; exact .refl _
        | 3, _ => simp [setG, cellSet, mkU, MU]; exact .refl _
      · have : (i < k + 1) = (i < k) := by apply propext; omega
        simp [setG, cellSet, mkU, h1, this]; exact .refl _
    · have : k = n := by omega
      subst this
      refine ResOk.mk [] [(0, 100000)] [] _ _ ?_ ⟨rfl, rfl⟩
      simp [doneC, resOf, resAV, tup, pinR, PV.Le_self, hbs, St.lowers, St.lower, stLe, leEnv, leObs, obLe, injB, pinC, AV.leC, AV.leCs, PV.leC, PV.Le_v, St.get, St.obj, look, rho, isNew, keptC, renH, Mode.ok, Mode.isZ, PV.isVal, PV.isNilSl, List.all_nil, List.all_cons, List.any_nil, List.any_cons, List.map_nil, List.map_cons, res44, hbs]
      intro i c hi hc
      simp [mkU, hi]; exact .refl _
/-! ### arguments -/
def boolOf : PV → Bool
  | .v (.bool b) => b
  | _ => false
def useC (c : PV) (i : Nat) : Us := ⟨intOf (celC c i 0), boolOf (celC c i 1), intOf (celC c i 2), intOf (celC c i 3)⟩
def usesC (c : PV) : List Us := (List.range (lenC c)).map (useC c)
theorem fit_uses {c : PV} (h : Fit (.sl [.int .i64, .bool, .int .i64, .int .i64]) c) : PV.Le c (.sl false 4 (usesC c).length (UB (usesC c))) ∧ (usesC c).length ≤ maxLen := by
  obtain ⟨nn, n, g, rfl, hn, hg⟩ := fit_sl h
  have hl : (usesC (.sl nn 4 n g)).length = n := by simp [usesC, lenC]
  refine ⟨.sl _ _ (fun h => by cases h) 4 _ _ _ _ hl.symm fun i j hi hj => ?_, by rw [show ([Leaf.int .i64, .bool, .int .i64, .int .i64] : List Leaf).length = 4 from rfl, hl]; exact hn⟩
  have e : (usesC (.sl nn 4 n g)).getD i u0 = useC (.sl nn 4 n g) i := map_get hi
  show PV.Le (g i j) (UB (usesC (.sl nn 4 n g)) i j)
  simp only [UB, e]
  match j, hj with
  | 0, _ => obtain ⟨m, hm, _⟩ := fit_int (hg i 0 _ hi rfl); simp only [useC, Us.col, celC, hm, intOf]; exact .refl _
  | 1, _ => obtain ⟨m, hm⟩ := fit_bool (hg i 1 _ hi rfl); simp only [useC, Us.col, celC, hm, boolOf]; exact .refl _
  | 2, _ => obtain ⟨m, hm, _⟩ := fit_int (hg i 2 _ hi rfl); simp only [useC, Us.col, celC, hm, intOf]; exact .refl _
  | 3, _ => obtain ⟨m, hm, _⟩ := fit_int (hg i 3 _ hi rfl); simp only [useC, Us.col, celC, hm, intOf]; exact .refl _
theorem leaves_us : leaves Try.prog 12 60 = some [.sl [.int .i64, .bool, .int .i64, .int .i64]] := by kernel_rfl
theorem args_us {ts : List TypeId} {xs : List AV} (h : Args Try.prog (60 :: ts) xs) : ∃ U a cs, U.length ≤ maxLen ∧ AV.leP a (UL false U) ∧ Args Try.prog ts cs ∧ xs = a :: cs := by
  cases h with
  | cons t ts ls l cs hl hlen hfit h =>
    rw [leaves_us] at hl
    cases hl
    match l, hlen with
    | [c0], _ =>
      have h0 := fit_uses (hfit 0 _ rfl)
      simp only [List.getD_cons_zero] at h0
      refine ⟨usesC c0, _, cs, h0.2, ?_, h, rfl⟩
      unfold argOf
      rw [Try.underlying60]
      exact leP_fit (e := [.int .i64, .bool, .int .i64, .int .i64]) (hfit 0 _ rfl) h0.1
def in_lawMR (T : List (List Blk)) (S : List Blk) (U : List Us) := (G0, res10, ([] : List (Nat × Ob)), [Item.ir ir10], start [ME T S, UL false U] [])
theorem ev_lawMR : ∀ (T : List (List Blk)) (S : List Blk) (U : List Us), ev G0 res10 [] (3000 : Nat) (Or.callE [] Int (fun (r : Int) => r = (-1 : Int) ∨ (0 : Int) ≤ r ∧ r + (↑T.length : Int) + (↑T.flatten.length : Int) + (↑S.length : Int) = (1048576 : Int)) (fun (r : Int) => AI r) (fun (x : Int) => []) fun (r : Int) => Or.nil.split (Or.callE [] Int (fun (r_1 : Int) => r_1 = (-1 : Int) ∨ (0 : Int) ≤ r_1 ∧ r_1 + (↑U.length : Int) = r) (fun (r_1 : Int) => AI r_1) (fun (x : Int) => []) fun (r_1 : Int) => Or.nil.split (Or.call [] meR (meH T S) (Or.call [] (AV.own (0 : Nat)) [((0 : Nat), Ob.row Mode.u false (4 : Nat) U.length (UB U) [])] (Or.call [] (rR T S U) (rH T S U) (Or.call [] meR (meH T S) (Or.call [] (AV.own (0 : Nat)) [((0 : Nat), Ob.row Mode.u false (4 : Nat) U.length (UB U) [])] (Or.call [] (rR T S U) (rH T S U) (Or.call [] (AB true) [] (Or.call [] (AB true) [] (Or.call [] (AB true) [] (Or.nil.split (Or.call [] meR (meH T S) (Or.call [] (AB true) [] (Or.call [] (AV.own (0 : Nat)) [((0 : Nat), Ob.row Mode.u false (4 : Nat) U.length (UB U) [])] (Or.call [] (AB true) [] (Or.call [(1044 : Nat), (2044 : Nat)] (AI ((1 : Int) + (↑(mkN T S) : Int))) (mkMH T S (1 : Int)) (Or.call [(1046 : Nat)] (AI ((1 : Int) + (↑(mkN T S) : Int) + (4 : Int) * (↑U.length : Int))) [((0 : Nat), Ob.row Mode.u false (4 : Nat) U.length (MU ((1 : Int) + (↑(mkN T S) : Int))) [])] (Or.call [] (AB true) [] (Or.call [] (AB true) [] (Or.call [] (AB true) [] (Or.no.split (Or.call [(1050 : Nat), (2050 : Nat)] (AI ((1 : Int) + (↑(mkN (rT T S U) (rS T S U)) : Int))) (mkMH (rT T S U) (rS T S U) (1 : Int)) (Or.call [(3050 : Nat)] (AI ((1 : Int) + (↑(mkN (rT T S U) (rS T S U)) : Int) + (↑(rN T S U) : Int))) [((0 : Nat), Ob.row Mode.u false (1 : Nat) (rN T S U) (fun (i x : Nat) => PI ((1 : Int) + (↑(mkN (rT T S U) (rS T S U)) : Int) + (↑i : Int))) [])] (Or.call [(4050 : Nat)] (AI ((1 : Int) + (↑(mkN (rT T S U) (rS T S U)) : Int) + (↑(rN T S U) : Int) + (↑((3 : Nat) * rN T S U) : Int))) [((0 : Nat), Ob.row Mode.u false (1 : Nat) ((3 : Nat) * rN T S U) (fun (i x : Nat) => PI ((1 : Int) + (↑(mkN (rT T S U) (rS T S U)) : Int) + (↑(rN T S U) : Int) + (↑i : Int))) [])] (Or.call [] (AI ((1 : Int) + (↑(mkN (rT T S U) (rS T S U)) : Int))) [] (Or.call [] (AI ((1 : Int) + (↑(mkN (rT T S U) (rS T S U)) : Int) + (↑(rN T S U) : Int))) [] (Or.call [] (AI ((1 : Int) + (↑(mkN (rT T S U) (rS T S U)) : Int) + (↑(rN T S U) : Int) + (↑((3 : Nat) * rN T S U) : Int))) [] (Or.nil.split (Or.call [] meR (meH T S) (Or.call [] (AV.own (0 : Nat)) [((0 : Nat), Ob.row Mode.u false (4 : Nat) U.length (UB U) [])] (Or.call [] (rR T S U) (rH T S U) (Or.call [] (AB true) [] (Or.call [] (AB true) [] (Or.call [] (AB true) [] (Or.no.split (Or.call [] (AI ((1 : Int) + (↑(mkN (rT T S U) (rS T S U)) : Int))) [] (Or.call [] (AI ((1 : Int) + (↑(mkN (rT T S U) (rS T S U)) : Int) + (↑(rN T S U) : Int))) [] (Or.call [] (AI ((1 : Int) + (↑(mkN (rT T S U) (rS T S U)) : Int) + (↑(rN T S U) : Int) + (↑((3 : Nat) * rN T S U) : Int))) [] (Or.no.split Or.nil).lit).lit).lit)).lit.lit.lit.lit.lit.lit).lit.lit.lit.lit.lit).lit.lit.lit))))).lit).lit).lit))))).lit.lit.lit.lit.lit.lit).lit.lit.lit.lit.lit).lit.lit.lit.lit.lit).lit.lit.lit)).lit)).lit))).lit.lit.lit.lit.lit.lit).lit.lit.lit.lit.lit).lit.lit.lit))))))))) [Item.ir ir10] (start [ME T S, UL false U] []) = VC.callE Int (32 : Nat) [AV.ag [AV.p false (PV.sl false (1 : Nat) T.length (BB T)), AV.p false (PV.sl false (3 : Nat) S.length (SB S))], AV.p true (PV.v (Value.int IntKind.i64 (1048576 : Int)))] [] (fun (r : Int) => r = (-1 : Int) ∨ (0 : Int) ≤ r ∧ r + (↑T.length : Int) + (↑T.flatten.length : Int) + (↑S.length : Int) = (1048576 : Int)) (fun (r : Int) => AI r) (fun (x : Int) => []) fun (r : Int) => VC.split (decide (r < (0 : Int))) (VC.doneP (AV.p true (PV.v (Value.bool true)))) (VC.callE Int (39 : Nat) [AV.p false (PV.sl false (4 : Nat) U.length (UB U)), AV.p true (PV.v (Value.int IntKind.i64 r))] [] (fun (r_1 : Int) => r_1 = (-1 : Int) ∨ (0 : Int) ≤ r_1 ∧ r_1 + (↑U.length : Int) = r) (fun (r_1 : Int) => AI r_1) (fun (x : Int) => []) fun (r_1 : Int) => VC.split (decide (r_1 < (0 : Int))) (VC.doneP (AV.p true (PV.v (Value.bool true)))) (VC.call (34 : Nat) [AV.ag [AV.p false (PV.sl false (1 : Nat) T.length (BB T)), AV.p false (PV.sl false (3 : Nat) S.length (SB S))]] [] meR (meH T S) (VC.call (41 : Nat) [AV.p false (PV.sl false (4 : Nat) U.length (UB U))] [] (AV.own (0 : Nat)) [((0 : Nat), Ob.row Mode.u false (4 : Nat) U.length (UB U) [])] (VC.call (40 : Nat) [AV.ag [AV.p false (PV.sl false (1 : Nat) T.length (BB T)), AV.p false (PV.sl false (3 : Nat) S.length (SB S))], AV.p false (PV.sl false (4 : Nat) U.length (UB U))] [] (rR T S U) (rH T S U) (VC.call (34 : Nat) [AV.ag [AV.p false (PV.sl false (1 : Nat) T.length (BB T)), AV.p false (PV.sl false (3 : Nat) S.length (SB S))]] [] meR (meH T S) (VC.call (41 : Nat) [AV.p false (PV.sl false (4 : Nat) U.length (UB U))] [] (AV.own (0 : Nat)) [((0 : Nat), Ob.row Mode.u false (4 : Nat) U.length (UB U) [])] (VC.call (42 : Nat) [AV.ag [AV.p false (PV.sl false (1 : Nat) T.length (BB T)), AV.p false (PV.sl false (3 : Nat) S.length (SB S))], AV.p false (PV.sl false (4 : Nat) U.length (UB U))] [] (rR T S U) (rH T S U) (VC.call (36 : Nat) [AV.ag [AV.p false (PV.sl false (1 : Nat) (rT T S U).length (BB (rT T S U))), AV.p false (PV.sl false (3 : Nat) (rS T S U).length (SB (rS T S U)))], AV.ag [AV.p false (PV.sl false (1 : Nat) (rT T S U).length (BB (rT T S U))), AV.p false (PV.sl false (3 : Nat) (rS T S U).length (SB (rS T S U)))]] [] (AB true) [] (VC.call (19 : Nat) [AV.p false (PV.sl false (1 : Nat) (rN T S U) fun (i x : Nat) => PI (rV T S U i)), AV.p false (PV.sl false (1 : Nat) (rN T S U) fun (i x : Nat) => PI (rV T S U i))] [] (AB true) [] (VC.call (19 : Nat) [AV.p false (PV.sl false (1 : Nat) ((3 : Nat) * rN T S U) fun (i x : Nat) => PI (rB T S U i)), AV.p false (PV.sl false (1 : Nat) ((3 : Nat) * rN T S U) fun (i x : Nat) => PI (rB T S U i))] [] (AB true) [] (VC.split (!rAll T S U == rAll T S U) (VC.doneP (AV.p true (PV.v (Value.bool false)))) (VC.call (34 : Nat) [AV.ag [AV.p false (PV.sl false (1 : Nat) T.length (BB T)), AV.p false (PV.sl false (3 : Nat) S.length (SB S))]] [] meR (meH T S) (VC.call (36 : Nat) [AV.ag [AV.p false (PV.sl false (1 : Nat) T.length (BB T)), AV.p false (PV.sl false (3 : Nat) S.length (SB S))], AV.ag [AV.p false (PV.sl false (1 : Nat) T.length (BB T)), AV.p false (PV.sl false (3 : Nat) S.length (SB S))]] [] (AB true) [] (VC.call (41 : Nat) [AV.p false (PV.sl false (4 : Nat) U.length (UB U))] [] (AV.own (0 : Nat)) [((0 : Nat), Ob.row Mode.u false (4 : Nat) U.length (UB U) [])] (VC.call (43 : Nat) [AV.p false (PV.sl false (4 : Nat) U.length (UB U)), AV.p false (PV.sl false (4 : Nat) U.length (UB U))] [] (AB true) [] (VC.call (37 : Nat) [AV.ag [AV.own (0 : Nat), AV.own (1 : Nat)], AV.p true (PV.v (Value.int IntKind.i64 (1 : Int)))] [((0 : Nat), Ob.row Mode.u false (1 : Nat) T.length (BB T) []), ((1 : Nat), Ob.row Mode.u false (3 : Nat) S.length (SB S) [])] (AI ((1 : Int) + (↑(mkN T S) : Int))) (mkMH T S (1 : Int)) (VC.call (44 : Nat) [AV.own (0 : Nat), AV.p true (PV.v (Value.int IntKind.i64 ((1 : Int) + (↑(mkN T S) : Int))))] [((0 : Nat), Ob.row Mode.u false (4 : Nat) U.length (UB U) [])] (AI ((1 : Int) + (↑(mkN T S) : Int) + (4 : Int) * (↑U.length : Int))) [((0 : Nat), Ob.row Mode.u false (4 : Nat) U.length (MU ((1 : Int) + (↑(mkN T S) : Int))) [])] (VC.call (36 : Nat) [AV.ag [AV.p false (PV.sl false (1 : Nat) (rT T S U).length (BB (rT T S U))), AV.p false (PV.sl false (3 : Nat) (rS T S U).length (SB (rS T S U)))], AV.ag [AV.p false (PV.sl false (1 : Nat) (rT T S U).length (BB (rT T S U))), AV.p false (PV.sl false (3 : Nat) (rS T S U).length (SB (rS T S U)))]] [] (AB true) [] (VC.call (19 : Nat) [AV.p false (PV.sl false (1 : Nat) (rN T S U) fun (i x : Nat) => PI (rV T S U i)), AV.p false (PV.sl false (1 : Nat) (rN T S U) fun (i x : Nat) => PI (rV T S U i))] [] (AB true) [] (VC.call (19 : Nat) [AV.p false (PV.sl false (1 : Nat) ((3 : Nat) * rN T S U) fun (i x : Nat) => PI (rB T S U i)), AV.p false (PV.sl false (1 : Nat) ((3 : Nat) * rN T S U) fun (i x : Nat) => PI (rB T S U i))] [] (AB true) [] (VC.split (!rAll T S U == rAll T S U) VC.fail (VC.call (37 : Nat) [AV.ag [AV.own (0 : Nat), AV.own (1 : Nat)], AV.p true (PV.v (Value.int IntKind.i64 (1 : Int)))] [((0 : Nat), Ob.row Mode.u false (1 : Nat) (rT T S U).length (BB (rT T S U)) []), ((1 : Nat), Ob.row Mode.u false (3 : Nat) (rS T S U).length (SB (rS T S U)) [])] (AI ((1 : Int) + (↑(mkN (rT T S U) (rS T S U)) : Int))) (mkMH (rT T S U) (rS T S U) (1 : Int)) (VC.call (26 : Nat) [AV.own (0 : Nat), AV.p true (PV.v (Value.int IntKind.i64 ((1 : Int) + (↑(mkN (rT T S U) (rS T S U)) : Int))))] [((0 : Nat), Ob.row Mode.u false (1 : Nat) (rN T S U) (fun (i x : Nat) => PI (rV T S U i)) [])] (AI ((1 : Int) + (↑(mkN (rT T S U) (rS T S U)) : Int) + (↑(rN T S U) : Int))) [((0 : Nat), Ob.row Mode.u false (1 : Nat) (rN T S U) (fun (i x : Nat) => PI ((1 : Int) + (↑(mkN (rT T S U) (rS T S U)) : Int) + (↑i : Int))) [])] (VC.call (26 : Nat) [AV.own (0 : Nat), AV.p true (PV.v (Value.int IntKind.i64 ((1 : Int) + (↑(mkN (rT T S U) (rS T S U)) : Int) + (↑(rN T S U) : Int))))] [((0 : Nat), Ob.row Mode.u false (1 : Nat) ((3 : Nat) * rN T S U) (fun (i x : Nat) => PI (rB T S U i)) [])] (AI ((1 : Int) + (↑(mkN (rT T S U) (rS T S U)) : Int) + (↑(rN T S U) : Int) + (↑((3 : Nat) * rN T S U) : Int))) [((0 : Nat), Ob.row Mode.u false (1 : Nat) ((3 : Nat) * rN T S U) (fun (i x : Nat) => PI ((1 : Int) + (↑(mkN (rT T S U) (rS T S U)) : Int) + (↑(rN T S U) : Int) + (↑i : Int))) [])] (VC.call (38 : Nat) [AV.ag [AV.p false (PV.sl false (1 : Nat) (rT T S U).length (BW (wT (rT T S U)) (mkW (wT (rT T S U)) (1 : Int)))), AV.p false (PV.sl false (3 : Nat) (rS T S U).length (MK ((1 : Int) + (3 : Int) * (↑(rT T S U).flatten.length : Int))))], AV.p true (PV.v (Value.int IntKind.i64 (1 : Int)))] [] (AI ((1 : Int) + (↑(mkN (rT T S U) (rS T S U)) : Int))) [] (VC.call (27 : Nat) [AV.p false (PV.sl false (1 : Nat) (rN T S U) fun (i x : Nat) => PI ((1 : Int) + (↑(mkN (rT T S U) (rS T S U)) : Int) + (↑i : Int))), AV.p true (PV.v (Value.int IntKind.i64 ((1 : Int) + (↑(mkN (rT T S U) (rS T S U)) : Int))))] [] (AI ((1 : Int) + (↑(mkN (rT T S U) (rS T S U)) : Int) + (↑(rN T S U) : Int))) [] (VC.call (27 : Nat) [AV.p false (PV.sl false (1 : Nat) ((3 : Nat) * rN T S U) fun (i x : Nat) => PI ((1 : Int) + (↑(mkN (rT T S U) (rS T S U)) : Int) + (↑(rN T S U) : Int) + (↑i : Int))), AV.p true (PV.v (Value.int IntKind.i64 ((1 : Int) + (↑(mkN (rT T S U) (rS T S U)) : Int) + (↑(rN T S U) : Int))))] [] (AI ((1 : Int) + (↑(mkN (rT T S U) (rS T S U)) : Int) + (↑(rN T S U) : Int) + (↑((3 : Nat) * rN T S U) : Int))) [] (VC.split ((1 : Int) + (↑(mkN (rT T S U) (rS T S U)) : Int) + (↑(rN T S U) : Int) + (↑((3 : Nat) * rN T S U) : Int) != (1 : Int) + (↑(mkN (rT T S U) (rS T S U)) : Int) + (↑(rN T S U) : Int) + (↑((3 : Nat) * rN T S U) : Int)) (VC.doneP (AV.p true (PV.v (Value.bool false)))) (VC.call (34 : Nat) [AV.ag [AV.p false (PV.sl false (1 : Nat) T.length (BB T)), AV.p false (PV.sl false (3 : Nat) S.length (SB S))]] [] meR (meH T S) (VC.call (41 : Nat) [AV.p false (PV.sl false (4 : Nat) U.length (UB U))] [] (AV.own (0 : Nat)) [((0 : Nat), Ob.row Mode.u false (4 : Nat) U.length (UB U) [])] (VC.call (42 : Nat) [AV.ag [AV.p false (PV.sl false (1 : Nat) T.length (BB T)), AV.p false (PV.sl false (3 : Nat) S.length (SB S))], AV.p false (PV.sl false (4 : Nat) U.length (UB U))] [] (rR T S U) (rH T S U) (VC.call (36 : Nat) [AV.ag [AV.p false (PV.sl false (1 : Nat) (rT T S U).length (BB (rT T S U))), AV.p false (PV.sl false (3 : Nat) (rS T S U).length (SB (rS T S U)))], AV.ag [AV.p false (PV.sl false (1 : Nat) (rT T S U).length (BB (rT T S U))), AV.p false (PV.sl false (3 : Nat) (rS T S U).length (SB (rS T S U)))]] [] (AB true) [] (VC.call (19 : Nat) [AV.p false (PV.sl false (1 : Nat) (rN T S U) fun (i x : Nat) => PI (rV T S U i)), AV.p false (PV.sl false (1 : Nat) (rN T S U) fun (i x : Nat) => PI (rV T S U i))] [] (AB true) [] (VC.call (19 : Nat) [AV.p false (PV.sl false (1 : Nat) ((3 : Nat) * rN T S U) fun (i x : Nat) => PI (rB T S U i)), AV.p false (PV.sl false (1 : Nat) ((3 : Nat) * rN T S U) fun (i x : Nat) => PI (rB T S U i))] [] (AB true) [] (VC.split (!rAll T S U == rAll T S U) VC.fail (VC.call (38 : Nat) [AV.ag [AV.p false (PV.sl false (1 : Nat) (rT T S U).length (BW (wT (rT T S U)) (mkW (wT (rT T S U)) (1 : Int)))), AV.p false (PV.sl false (3 : Nat) (rS T S U).length (MK ((1 : Int) + (3 : Int) * (↑(rT T S U).flatten.length : Int))))], AV.p true (PV.v (Value.int IntKind.i64 (1 : Int)))] [] (AI ((1 : Int) + (↑(mkN (rT T S U) (rS T S U)) : Int))) [] (VC.call (27 : Nat) [AV.p false (PV.sl false (1 : Nat) (rN T S U) fun (i x : Nat) => PI ((1 : Int) + (↑(mkN (rT T S U) (rS T S U)) : Int) + (↑i : Int))), AV.p true (PV.v (Value.int IntKind.i64 ((1 : Int) + (↑(mkN (rT T S U) (rS T S U)) : Int))))] [] (AI ((1 : Int) + (↑(mkN (rT T S U) (rS T S U)) : Int) + (↑(rN T S U) : Int))) [] (VC.call (27 : Nat) [AV.p false (PV.sl false (1 : Nat) ((3 : Nat) * rN T S U) fun (i x : Nat) => PI ((1 : Int) + (↑(mkN (rT T S U) (rS T S U)) : Int) + (↑(rN T S U) : Int) + (↑i : Int))), AV.p true (PV.v (Value.int IntKind.i64 ((1 : Int) + (↑(mkN (rT T S U) (rS T S U)) : Int) + (↑(rN T S U) : Int))))] [] (AI ((1 : Int) + (↑(mkN (rT T S U) (rS T S U)) : Int) + (↑(rN T S U) : Int) + (↑((3 : Nat) * rN T S U) : Int))) [] (VC.split ((1 : Int) + (↑(mkN (rT T S U) (rS T S U)) : Int) + (↑(rN T S U) : Int) + (↑((3 : Nat) * rN T S U) : Int) != (1 : Int) + (↑(mkN (rT T S U) (rS T S U)) : Int) + (↑(rN T S U) : Int) + (↑((3 : Nat) * rN T S U) : Int)) VC.fail (VC.doneP (AV.p true (PV.v (Value.bool true))))))))))))))))))))))))))))))))))))))))))) := by intros; kernel_rfl
theorem r_bound (T : List (List Blk)) (S : List Blk) (U : List Us) : (rT T S U).length ≤ 7 ∧ (rS T S U).length + (rT T S U).flatten.length ≤ 1000 ∧ rN T S U ≤ 40 := by
  cases h : rAll T S U with
  | false =>
    obtain ⟨h1, h2, h3⟩ := r_no h
    rw [h1, h2, h3]; simp
  | true =>
    obtain ⟨h1, h2, h3⟩ := r_yes h
    rw [h1, h2, h3]
    simp only [rAll, Bool.and_eq_true, decide_eq_true_eq] at h
    have := rM_bound h.1.1 (k := U.length) (U := U) (S := S) (fun j hj => allB_iff.1 h.2 j hj)
    exact ⟨Nat.le_of_eq this.1, this.2, h.1.2⟩
theorem c_lawMR (T : List (List Blk)) (S : List Blk) (U : List Us) (h1 : T.length ≤ maxLen) (h2 : ∀ i, wT T i ≤ maxLen) (h3 : S.length ≤ maxLen) (h4 : U.length ≤ maxLen) : PRet Try.prog G0 10 [ME T S, UL false U] (AB true) := by
  refine PRet.by chk10 (ev_lawMR T S U) ?_
  simp only [VC.holds_split, VC.holds_need, VC.holds_doneP, VC.holds_done, VC.holds_either, VC.holds_call, VC.holds_callE, VC.holds_lend, VC.holds_stop, VC.holds_fail, decide_eq_true_eq, decide_eq_false_iff_not]
  refine ⟨c_szM _ _ _ h1 h2 h3 (by omega) (by omega), fun r hr => ⟨fun _ => by simp, fun hr0 => ?_⟩⟩
  have hr := hr.resolve_left (by omega)
  have hT : T.length ≤ 1048576 := by omega
  have hS : S.length + T.flatten.length ≤ 1048576 := by omega
  refine ⟨c_szU _ _ _ h4 hr.1 (by omega), fun r' hr' => ⟨fun _ => by simp, fun hr0' => ?_⟩⟩
  have hr' := hr'.resolve_left (by omega)
  have hU : U.length ≤ 1048576 := by omega
  obtain ⟨u1, u2, u3⟩ := r_bound T S U
  have to := c_toM T S hT hS
  have tu := c_toUS false U hU
  have sp := c_spR T S U hT hS
  have im := c_imR T S U hT hS
  have em0 := c_eqM T S hT hS
  have eu := c_eqUS false false U (by omega)
  generalize rT T S U = T' at *
  generalize rS T S U = S' at *
  have hT' : T'.length ≤ 1048576 := by omega
  have hS' : S'.length + T'.flatten.length ≤ 1048576 := by omega
  have em := c_eqM T' S' hT' hS'
  have hk : mkN T S ≤ 6291456 := by unfold mkN; omega
  have hk' : mkN T' S' ≤ 6291456 := by unfold mkN; omega
  have hd := c_hdM false false T' S' 1 hT' hS' (by omega) (by omega)
  have ev := c_eqIntS0 false false (rN T S U) (rV T S U) (by omega)
  have eb := c_eqIntS0 false false (3 * rN T S U) (rB T S U) (by omega)
  have hdv := c_heldIntS0 false (rN T S U) (1 + (mkN T' S' : Nat)) (by omega) (by omega) (by omega)
  have hdb := c_heldIntS0 false (3 * rN T S U) (1 + (mkN T' S' : Nat) + (rN T S U : Nat)) (by omega) (by omega) (by omega)
  refine ⟨to, tu, sp, to, tu, im, em, ev, eb, fun e => by simp at e, fun _ => ⟨to, em0, tu, eu, c_mkM _ _ _ _ _ hT hS (by omega) (by omega), c_mkUS _ _ _ _ (by omega) (by omega) (by omega), em, ev, eb, fun e => by simp at e, fun _ => ⟨c_mkM _ _ _ _ _ hT' hS' (by omega) (by omega), c_markIntS _ _ _ _ (by omega) (by omega) (by omega), c_markIntS _ _ _ _ (by omega) (by omega) (by omega), hd, hdv, hdb, fun e => by simp at e, fun _ => ⟨to, tu, im, em, ev, eb, fun e => by simp at e, fun _ => ⟨hd, hdv, hdb, fun e => by simp at e, fun _ => by simp⟩⟩⟩⟩⟩
theorem law_FnExactMemoryRun (xs : List AV) (h : Args Try.prog Try.f10.params.toList xs) : PRet Try.prog G0 10 xs (AB true) := by
  have hp : Try.f10.params.toList = [48, 60] := by kernel_rfl
  rw [hp] at h
  obtain ⟨T, S, a, cs, k1, k2, k3, ha, h2, rfl⟩ := args_mem h
  obtain ⟨U, b, cs', k4, hb, h3, rfl⟩ := args_us h2
  cases h3
  exact (c_lawMR T S U k1 k2 k3 k4).args ⟨ha, hb, trivial⟩
end Go.Gw
