/- Padded tables sorted: the two functions; with no condition. -/
import Derived.Test.YtigaelckdbeecaaDoorSorted
import Derived.KernelRfl
namespace Go.Gw
open Go Go.Proofs
set_option linter.unusedSimpArgs false
set_option linter.unusedVariables false
set_option maxRecDepth 100000
def ir5 : Ir :=
  (.seq
  (.reg [] [o 3 (.box 3 (tt 0)),
    o 6 (.alloc [(.slice none 0 0), (.slice none 0 0), (.slice none 0 0)]),
    o 7 (.mov (.const (.slice none 0 0))),
    o 8 (.mov (cb false))])
  (.seq
  (.seq
  (.reg [11, 12, 13, 14, 15, 16, 17, 18, 19, 20, 21, 22, 23] [o 11 (.load true 3 (tt 3)),
    o 12 (.call 13 [(tt 11)]),
    o 13 (.un .not (tt 12)),
    o 14 (.mov (tt 13)),
    og 15 14 false (.mov (tt 1)),
    og 16 14 false (.bin .neq (tt 15) (.const (.string ⟨#[]⟩))),
    og 17 14 false (.mov (tt 16)),
    og 18 17 true (.fadr 0 (tt 3)),
    og 19 17 true (.load false 1 (tt 18)),
    og 20 17 true (.mov (tt 1)),
    og 21 17 true (.call 21 [(tt 19), (tt 20)]),
    og 22 17 true (.un .not (tt 21)),
    og 23 14 false (.pick (tt 17) (tt 22) (cb false)),
    o 24 (.pick (tt 14) (cb true) (tt 23))])
  (.cond (tt 24)
   (.seq
   (.reg [25] [o 25 (.build [(.slice none 0 0), (.slice none 0 0), (.slice none 0 0)] []),
     on (.store 3 (tt 6) (tt 25)),
     o 7 (.mov (.const (.slice none 0 0))),
     o 8 (.mov (cb false))])
   .ret)
   .skip))
  (.seq
  (.reg [27, 28, 29, 30, 26, 31, 32] [o 27 (.load true 3 (tt 3)),
    o 28 (.mov (tt 1)),
    o 29 (.mov (tt 2)),
    o 30 (.call 22 [(tt 27), (tt 28), (tt 29)]),
    o 26 (.mov (tt 30)),
    o 31 (.ext (tt 26) 0),
    o 32 (.ext (tt 26) 1),
    o 9 (.alloc [(.slice none 0 0), (.slice none 0 0), (.slice none 0 0)]),
    on (.store 3 (tt 9) (tt 31)),
    o 10 (.mov (tt 32))])
  (.seq
  (.reg [33, 34] [o 33 (.load true 3 (tt 9)),
    o 34 (.mov (tt 10)),
    on (.store 3 (tt 6) (tt 33)),
    o 7 (.mov (tt 34)),
    o 8 (.mov (cb true))])
  .ret))))
def keep5 : List Nat := [0, 1, 2, 3, 6, 7, 8, 9, 10, 24]
def res5 : List RI := [.cell true 3 6, .tmp 7, .tmp 8]
theorem chk5 : chk Tryd.prog 5 3 keep5 = some (ir5, res5) := by kernel_rfl
def ir23 : Ir :=
  (.seq
  (.reg [] [o 1 (.box 3 (tt 0)),
    o 2 (.alloc [(.slice none 0 0), (.slice none 0 0), (.slice none 0 0)])])
  (.seq
  (.reg [4] [o 4 (.load true 3 (tt 1)),
    o 3 (.alloc [(.slice none 0 0), (.slice none 0 0), (.slice none 0 0)]),
    on (.store 3 (tt 3) (tt 4))])
  (.seq
  (.reg [5, 6, 7, 8, 9] [o 5 (.mkSl 1 0 [(.string ⟨#[]⟩)] []),
    o 6 (.fadr 0 (tt 1)),
    o 7 (.load false 1 (tt 6)),
    o 8 (.app 1 16 true (tt 5) (tt 7)),
    o 9 (.fadr 0 (tt 3)),
    on (.store 1 (tt 9) (tt 8))])
  (.seq
  (.reg [10, 11, 12, 13] [o 10 (.fadr 1 (tt 1)),
    o 11 (.load false 1 (tt 10)),
    o 12 (.call 56 [(tt 11)]),
    o 13 (.fadr 1 (tt 3)),
    on (.store 1 (tt 13) (tt 12))])
  (.seq
  (.reg [14, 15, 16, 17, 18] [o 14 (.mkSl 1 0 [(.bool false)] []),
    o 15 (.fadr 2 (tt 1)),
    o 16 (.load false 1 (tt 15)),
    o 17 (.app 1 1 true (tt 14) (tt 16)),
    o 18 (.fadr 2 (tt 3)),
    on (.store 1 (tt 18) (tt 17))])
  (.seq
  (.reg [19] [o 19 (.load true 3 (tt 3)),
    on (.store 3 (tt 2) (tt 19))])
  .ret))))))
def keep23 : List Nat := [0, 1, 2, 3]
def res23 : List RI := [.cell true 3 2]
theorem chk23 : chk Tryd.prog 23 1 keep23 = some (ir23, res23) := by kernel_rfl
def ir59_L1 : Ir :=
  (.seq
  (.seq
  (.reg [14, 15, 16, 17] [o 14 (.mov (tt 4)),
    o 15 (.fadr 1 (tt 1)),
    o 16 (.load false 1 (tt 15)),
    o 17 (.len (tt 16)),
    o 18 (.bin .lss (tt 14) (tt 17))])
  (.cond (tt 18)
   .skip
   (.exit 0)))
  (.seq
  (.block 1
   (.dreg [21, 22, 23, 24, 25, 26, 27, 28, 29, 30, 31] [0, 1, 0, 4, 0, 28, 60, 124, 252, 511, 1023, 2047] [(1, 1022), (3, 1024), (6, 1027), (7, 1028), (7, 2028), (7, 3028), (7, 4028), (7, 5028), (7, 6028), (7, 7028), (7, 8028), (8, 29), (9, 30)] [o 21 (.fadr 1 (tt 3)),
     o 22 (.load false 1 (tt 21)),
     o 23 (.fadr 1 (tt 1)),
     o 24 (.load false 1 (tt 23)),
     o 25 (.mov (tt 4)),
     o 26 (.idx 1 (tt 24) (tt 25)),
     o 27 (.load false 1 (tt 26)),
     o 28 (.call 72 [(tt 27)]),
     o 29 (.mkSl 1 1 [(.slice none 0 0)] [(0, (tt 28))]),
     o 30 (.app 1 24 false (tt 22) (tt 29)),
     o 31 (.fadr 1 (tt 3)),
     on (.store 1 (tt 31) (tt 30))]))
  (.reg [19, 20] [o 19 (.mov (tt 4)),
    o 20 (.bin .add (tt 19) (ci 1)),
    o 4 (.mov (tt 20))])))
def ir59_T2 : Ir :=
  (.seq
  (.reg [32] [o 32 (.load true 3 (tt 3)),
    on (.store 3 (tt 2) (tt 32))])
  .ret)
def ir59 : Ir :=
  (.seq
  (.reg [] [o 1 (.box 3 (tt 0)),
    o 2 (.alloc [(.slice none 0 0), (.slice none 0 0), (.slice none 0 0)])])
  (.seq
  (.dreg [5, 6, 7, 8, 9, 10, 11, 12, 13] [0, 0, 2, 7, 0, 0, 32, 127, 255, 0, 1023] [(0, 5), (2, 1007), (3, 8), (4, 9), (6, 1011), (7, 12), (9, 3)] [o 5 (.mkSl 1 0 [(.string ⟨#[]⟩)] []),
    o 6 (.fadr 0 (tt 1)),
    o 7 (.load false 1 (tt 6)),
    o 8 (.app 1 16 true (tt 5) (tt 7)),
    o 9 (.mkSl 1 0 [(.bool false)] []),
    o 10 (.fadr 2 (tt 1)),
    o 11 (.load false 1 (tt 10)),
    o 12 (.app 1 1 true (tt 9) (tt 11)),
    o 13 (.build [(.slice none 0 0), (.slice none 0 0), (.slice none 0 0)] [(0, 1, (tt 8)), (2, 1, (tt 12))]),
    o 3 (.alloc [(.slice none 0 0), (.slice none 0 0), (.slice none 0 0)]),
    on (.store 3 (tt 3) (tt 13))])
  (.seq
  (.seq
  (.reg [] [o 4 (.mov (ci 0))])
  (.block 0
   (.loop ir59_L1)))
  ir59_T2)))
def keep59 : List Nat := [0, 1, 2, 3, 4, 18]
def res59 : List RI := [.cell true 3 2]
theorem chk59 : chk Tryd.prog 59 1 keep59 = some (ir59, res59) := by kernel_rfl
def ir60 : Ir :=
  (.seq
  (.reg [] [o 5 (.box 3 (tt 0)),
    o 10 (.mov (cb false))])
  (.seq
  (.seq
  (.dreg [11, 12, 13, 14, 15, 16, 17, 18, 19, 20] [0, 1, 0, 7, 15, 0, 32, 0, 224, 480, 1023] [(1, 1012), (4, 1015), (6, 1017), (9, 1020)] [o 11 (.fadr 2 (tt 5)),
    o 12 (.load false 1 (tt 11)),
    o 13 (.mov (tt 1)),
    o 14 (.idx 1 (tt 12) (tt 13)),
    o 15 (.load false 1 (tt 14)),
    o 16 (.fadr 2 (tt 5)),
    o 17 (.load false 1 (tt 16)),
    o 18 (.mov (tt 2)),
    o 19 (.idx 1 (tt 17) (tt 18)),
    o 20 (.load false 1 (tt 19)),
    o 21 (.binB .neq (tt 15) (tt 20))])
  (.cond (tt 21)
   (.seq
   (.reg [22, 23, 24, 25, 26] [o 22 (.fadr 2 (tt 5)),
     o 23 (.load false 1 (tt 22)),
     o 24 (.mov (tt 1)),
     o 25 (.idx 1 (tt 23) (tt 24)),
     o 26 (.load false 1 (tt 25)),
     o 10 (.mov (tt 26))])
   .ret)
   .skip))
  (.seq
  (.seq
  (.dreg [27, 28, 29, 30, 31, 32, 33, 34, 35, 36, 37, 38, 39, 40, 41, 42, 43, 44, 45, 46] [0, 1, 3, 7, 15, 7, 63, 127, 7, 511, 1023, 7, 2055, 7, 14343, 30727, 7, 129031, 260103, 524287, 1048575] [(4, 1031), (7, 1034), (10, 1037), (12, 1039), (15, 1042), (18, 1045)] [o 27 (.mov (tt 3)),
    o 28 (.bin .geq (tt 27) (ci 0)),
    o 29 (.mov (tt 28)),
    og 30 29 true (.fadr 1 (tt 5)),
    og 31 29 true (.load false 1 (tt 30)),
    og 32 29 true (.mov (tt 1)),
    og 33 29 true (.idx 1 (tt 31) (tt 32)),
    og 34 29 true (.load false 1 (tt 33)),
    og 35 29 true (.mov (tt 3)),
    og 36 29 true (.idx 1 (tt 34) (tt 35)),
    og 37 29 true (.load false 1 (tt 36)),
    og 38 29 true (.fadr 1 (tt 5)),
    og 39 29 true (.load false 1 (tt 38)),
    og 40 29 true (.mov (tt 2)),
    og 41 29 true (.idx 1 (tt 39) (tt 40)),
    og 42 29 true (.load false 1 (tt 41)),
    og 43 29 true (.mov (tt 3)),
    og 44 29 true (.idx 1 (tt 42) (tt 43)),
    og 45 29 true (.load false 1 (tt 44)),
    og 46 29 true (.bin .neq (tt 37) (tt 45)),
    o 47 (.pick (tt 29) (tt 46) (cb false))])
  (.cond (tt 47)
   (.seq
   (.dreg [48, 49, 50, 51, 52, 53, 54, 55, 56, 57, 58, 59, 60, 61, 62, 63, 64, 65, 66] [0, 1, 0, 7, 15, 0, 63, 127, 0, 256, 0, 1792, 3840, 0, 16128, 32512, 65535, 0, 262143, 524287] [(1, 1049), (4, 1052), (7, 1055), (9, 1057), (12, 1060), (15, 1063)] [o 48 (.fadr 1 (tt 5)),
     o 49 (.load false 1 (tt 48)),
     o 50 (.mov (tt 1)),
     o 51 (.idx 1 (tt 49) (tt 50)),
     o 52 (.load false 1 (tt 51)),
     o 53 (.mov (tt 3)),
     o 54 (.idx 1 (tt 52) (tt 53)),
     o 55 (.load false 1 (tt 54)),
     o 56 (.fadr 1 (tt 5)),
     o 57 (.load false 1 (tt 56)),
     o 58 (.mov (tt 2)),
     o 59 (.idx 1 (tt 57) (tt 58)),
     o 60 (.load false 1 (tt 59)),
     o 61 (.mov (tt 3)),
     o 62 (.idx 1 (tt 60) (tt 61)),
     o 63 (.load false 1 (tt 62)),
     o 64 (.bin .lss (tt 55) (tt 63)),
     o 65 (.mov (tt 4)),
     o 66 (.binB .neq (tt 64) (tt 65)),
     o 10 (.mov (tt 66))])
   .ret)
   .skip))
  (.seq
  (.dreg [67, 68, 69, 70, 71, 72, 73, 74, 75, 76, 77] [0, 1, 0, 7, 15, 0, 32, 0, 224, 480, 1023, 2047] [(1, 1068), (4, 1071), (6, 1073), (9, 1076), (10, 1077), (10, 2077), (10, 3077), (10, 4077), (10, 5077), (10, 6077), (10, 7077), (10, 8077)] [o 67 (.fadr 1 (tt 5)),
    o 68 (.load false 1 (tt 67)),
    o 69 (.mov (tt 1)),
    o 70 (.idx 1 (tt 68) (tt 69)),
    o 71 (.load false 1 (tt 70)),
    o 72 (.fadr 1 (tt 5)),
    o 73 (.load false 1 (tt 72)),
    o 74 (.mov (tt 2)),
    o 75 (.idx 1 (tt 73) (tt 74)),
    o 76 (.load false 1 (tt 75)),
    o 77 (.call 73 [(tt 71), (tt 76)]),
    o 10 (.mov (tt 77))])
  .ret))))
def keep60 : List Nat := [0, 1, 2, 3, 4, 5, 10, 21, 47]
def res60 : List RI := [.tmp 10]
theorem chk60 : chk Tryd.prog 60 5 keep60 = some (ir60, res60) := by kernel_rfl
def ir26_C1 : Ir :=
  (.seq
   (.reg [36, 37, 38, 39, 40] [o 36 (.load true 3 (tt 7)),
     o 37 (.mov (tt 11)),
     o 38 (.mov (tt 10)),
     o 39 (.mov (tt 1)),
     o 40 (.mov (tt 2)),
     o 41 (.call 60 [(tt 36), (tt 37), (tt 38), (tt 39), (tt 40)])])
   (.cond (tt 41)
    (.seq
    (.reg [42, 43, 44, 45, 46] [o 42 (.fadr 1 (tt 7)),
      o 43 (.load false 1 (tt 42)),
      o 44 (.mov (tt 10)),
      o 45 (.idx 1 (tt 43) (tt 44)),
      o 46 (.load false 1 (tt 45)),
      o 12 (.mov (tt 46))])
    (.seq
    (.dreg [47, 48, 49, 50, 51, 52, 53, 54, 55] [0, 1, 0, 0, 8, 0, 56, 120, 255, 511] [(1, 1048), (4, 1051), (7, 1054)] [o 47 (.fadr 1 (tt 7)),
      o 48 (.load false 1 (tt 47)),
      o 49 (.mov (tt 10)),
      o 50 (.fadr 1 (tt 7)),
      o 51 (.load false 1 (tt 50)),
      o 52 (.mov (tt 11)),
      o 53 (.idx 1 (tt 51) (tt 52)),
      o 54 (.load false 1 (tt 53)),
      o 55 (.idx 1 (tt 48) (tt 49)),
      on (.store 1 (tt 55) (tt 54))])
    (.seq
    (.reg [56, 57, 58, 59, 60] [o 56 (.fadr 1 (tt 7)),
      o 57 (.load false 1 (tt 56)),
      o 58 (.mov (tt 11)),
      o 59 (.mov (tt 12)),
      o 60 (.idx 1 (tt 57) (tt 58)),
      on (.store 1 (tt 60) (tt 59))])
    (.seq
    (.reg [61, 62, 63, 64, 65] [o 61 (.fadr 2 (tt 7)),
      o 62 (.load false 1 (tt 61)),
      o 63 (.mov (tt 10)),
      o 64 (.idx 1 (tt 62) (tt 63)),
      o 65 (.load false 1 (tt 64)),
      o 13 (.mov (tt 65))])
    (.seq
    (.dreg [66, 67, 68, 69, 70, 71, 72, 73, 74] [0, 1, 0, 0, 8, 0, 56, 120, 255, 511] [(1, 1067), (4, 1070), (7, 1073)] [o 66 (.fadr 2 (tt 7)),
      o 67 (.load false 1 (tt 66)),
      o 68 (.mov (tt 10)),
      o 69 (.fadr 2 (tt 7)),
      o 70 (.load false 1 (tt 69)),
      o 71 (.mov (tt 11)),
      o 72 (.idx 1 (tt 70) (tt 71)),
      o 73 (.load false 1 (tt 72)),
      o 74 (.idx 1 (tt 67) (tt 68)),
      on (.store 1 (tt 74) (tt 73))])
    (.reg [75, 76, 77, 78, 79] [o 75 (.fadr 2 (tt 7)),
      o 76 (.load false 1 (tt 75)),
      o 77 (.mov (tt 11)),
      o 78 (.mov (tt 13)),
      o 79 (.idx 1 (tt 76) (tt 77)),
      on (.store 1 (tt 79) (tt 78))]))))))
    .skip))
def ir26_E1 : Ir :=
  (.reg [24, 25] [o 24 (.mov (tt 9)),
    o 25 (.bin .add (tt 24) (ci 1)),
    o 9 (.mov (tt 25))])
def ir26_L1 : Ir :=
  (.seq
  (.seq
  (.reg [20, 21, 22] [o 20 (.mov (tt 9)),
    o 21 (.mov (tt 8)),
    o 22 (.len (tt 21)),
    o 23 (.bin .lss (tt 20) (tt 22))])
  (.cond (tt 23)
   .skip
   (.exit 0)))
  (.seq
  (.block 1
   (.seq
   (.reg [26, 27, 28, 29, 30] [o 26 (.mov (tt 8)),
     o 27 (.mov (tt 9)),
     o 28 (.idx 2 (tt 26) (tt 27)),
     o 29 (.fadr 0 (tt 28)),
     o 30 (.load false 1 (tt 29)),
     o 10 (.mov (tt 30))])
   (.seq
   (.reg [31, 32, 33, 34, 35] [o 31 (.mov (tt 8)),
     o 32 (.mov (tt 9)),
     o 33 (.idx 2 (tt 31) (tt 32)),
     o 34 (.fadr 1 (tt 33)),
     o 35 (.load false 1 (tt 34)),
     o 11 (.mov (tt 35))])
   ir26_C1)))
  ir26_E1))
def ir26_T2 : Ir :=
  (.seq
  (.reg [80] [o 80 (.load true 3 (tt 7)),
    on (.store 3 (tt 6) (tt 80))])
  .ret)
def ir26 : Ir :=
  (.seq
  (.reg [] [o 3 (.box 3 (tt 0)),
    o 6 (.alloc [(.slice none 0 0), (.slice none 0 0), (.slice none 0 0)])])
  (.seq
  (.reg [14, 15] [o 14 (.load true 3 (tt 3)),
    o 15 (.call 59 [(tt 14)]),
    o 7 (.alloc [(.slice none 0 0), (.slice none 0 0), (.slice none 0 0)]),
    on (.store 3 (tt 7) (tt 15))])
  (.seq
  (.reg [16, 17, 18, 19] [o 16 (.fadr 1 (tt 3)),
    o 17 (.load false 1 (tt 16)),
    o 18 (.len (tt 17)),
    o 19 (.call 28 [(tt 18)]),
    o 8 (.mov (tt 19))])
  (.seq
  (.seq
  (.reg [] [o 9 (.mov (ci 0))])
  (.block 0
   (.loop ir26_L1)))
  ir26_T2))))
def keep26 : List Nat := [0, 1, 2, 3, 6, 7, 8, 9, 10, 11, 12, 13, 23, 41]
def res26 : List RI := [.cell true 3 6]
theorem chk26 : chk Tryd.prog 26 3 keep26 = some (ir26, res26) := by kernel_rfl
def ir6 : Ir :=
  (.seq
  (.reg [] [o 3 (.box 3 (tt 0)),
    o 6 (.alloc [(.slice none 0 0), (.slice none 0 0), (.slice none 0 0)]),
    o 7 (.mov (.const (.slice none 0 0))),
    o 8 (.mov (cb false))])
  (.seq
  (.reg [9, 10] [o 9 (.load true 3 (tt 3)),
    o 10 (.call 23 [(tt 9)]),
    on (.store 3 (tt 3) (tt 10))])
  (.seq
  (.seq
  (.reg [11, 12, 13, 14, 15, 16, 17, 18, 19, 20, 21, 22, 23] [o 11 (.load true 3 (tt 3)),
    o 12 (.call 24 [(tt 11)]),
    o 13 (.un .not (tt 12)),
    o 14 (.mov (tt 13)),
    og 15 14 false (.mov (tt 1)),
    og 16 14 false (.bin .neq (tt 15) (.const (.string ⟨#[]⟩))),
    og 17 14 false (.mov (tt 16)),
    og 18 17 true (.fadr 0 (tt 3)),
    og 19 17 true (.load false 1 (tt 18)),
    og 20 17 true (.mov (tt 1)),
    og 21 17 true (.call 25 [(tt 19), (tt 20)]),
    og 22 17 true (.bin .lss (tt 21) (ci 0)),
    og 23 14 false (.pick (tt 17) (tt 22) (cb false)),
    o 24 (.pick (tt 14) (cb true) (tt 23))])
  (.cond (tt 24)
   (.seq
   (.reg [25, 26] [o 25 (.build [(.slice none 0 0), (.slice none 0 0), (.slice none 0 0)] []),
     o 26 (.mkSl 3 0 [(.int .i64 0), (.int .i64 0), (.bool false)] []),
     on (.store 3 (tt 6) (tt 25)),
     o 7 (.mov (tt 26)),
     o 8 (.mov (cb false))])
   .ret)
   .skip))
  (.seq
  (.dreg [27, 28, 29, 30, 31, 32, 33, 34, 35, 36, 37, 38] [0, 0, 2, 0, 14, 0, 63, 0, 128, 384, 1023, 2047, 4095, 8191, 16383] [(0, 1027), (0, 2027), (0, 3027), (2, 1029), (4, 1031), (4, 2031), (4, 3031), (4, 4031), (4, 5031), (4, 6031), (4, 7031), (4, 8031), (6, 1033), (6, 2033), (6, 3033), (6, 4033), (6, 5033), (6, 6033), (6, 7033), (6, 8033), (8, 1035), (10, 1037), (10, 2037), (10, 3037), (10, 4037), (10, 5037), (10, 6037), (10, 7037), (10, 8037), (11, 1038), (11, 2038), (11, 3038), (11, 4038), (11, 5038), (11, 6038), (11, 7038), (11, 8038)] [o 27 (.load true 3 (tt 3)),
    o 28 (.fadr 0 (tt 3)),
    o 29 (.load false 1 (tt 28)),
    o 30 (.mov (tt 1)),
    o 31 (.call 25 [(tt 29), (tt 30)]),
    o 32 (.mov (tt 2)),
    o 33 (.call 26 [(tt 27), (tt 31), (tt 32)]),
    o 34 (.fadr 1 (tt 3)),
    o 35 (.load false 1 (tt 34)),
    o 36 (.len (tt 35)),
    o 37 (.call 28 [(tt 36)]),
    o 38 (.call 27 [(ci 2), (tt 37)]),
    on (.store 3 (tt 6) (tt 33)),
    o 7 (.mov (tt 38)),
    o 8 (.mov (cb true))])
  .ret))))
def keep6 : List Nat := [0, 1, 2, 3, 6, 7, 8, 24]
def res6 : List RI := [.cell true 3 6, .tmp 7, .tmp 8]
theorem chk6 : chk Tryd.prog 6 3 keep6 = some (ir6, res6) := by kernel_rfl

/-! ### a network at work on rows -/
section
variable {β : Type} (lt : β → β → Bool) (K : Nat → β)
def stD (D : Nat → Nat) (x : Nat × Nat) : Nat → Nat := if lt (K (D x.2)) (K (D x.1)) then swF D x.1 x.2 else D
def runD (D : Nat → Nat) (l : LP) : Nat → Nat := l.foldl (stD lt K) D
theorem runD_perm {n : Nat} {l : LP} (h : ∀ x, x ∈ l → x.1 < x.2 ∧ x.2 < n) : ∀ D, SegP 0 n D (runD lt K D l) := by
  induction l with
  | nil => intro D; exact .refl _ _ _
  | cons x l ih =>
    intro D
    have hx := h x List.mem_cons_self
    show SegP 0 n D (runD lt K (stD lt K D x) l)
    refine SegP.trans ?_ (ih (fun y hy => h y (List.mem_cons_of_mem _ hy)) _)
    simp only [stD]
    split
    · exact .swap D ⟨Nat.zero_le _, by omega⟩ ⟨Nat.zero_le _, hx.2⟩
    · exact .refl _ _ _
theorem runD_bool (hO : Go.Sort.SWO lt) (t : β) {n : Nat} {l : LP} (h : ∀ x, x ∈ l → x.1 < x.2 ∧ x.2 < n) : ∀ D, (fun i => !lt (K (runD lt K D l i)) t) = runB (fun i => !lt (K (D i)) t) l := by
  induction l with
  | nil => intro D; rfl
  | cons x l ih =>
    intro D
    have hx := h x List.mem_cons_self
    show (fun i => !lt (K (runD lt K (stD lt K D x) l i)) t) = runB (stB (fun i => !lt (K (D i)) t) x) l
    rw [ih (fun y hy => h y (List.mem_cons_of_mem _ hy))]
    congr 1
    funext i
    simp only [stD, stB]
    have hne : ¬ x.2 = x.1 := by omega
    by_cases hl : lt (K (D x.2)) (K (D x.1)) = true
    · -- exchanged: what is at the second place is less
      have up : lt (K (D x.1)) t = true → lt (K (D x.2)) t = true := fun e => hO.trans _ _ _ hl e
      simp only [hl, if_true, swF]
      by_cases c1 : i = x.1
      · subst c1
        simp only [if_true]
        cases e1 : lt (K (D x.1)) t <;> cases e2 : lt (K (D x.2)) t <;> simp_all
      · by_cases c2 : i = x.2
        · subst c2
          simp only [hne, if_false, if_true]
          cases e1 : lt (K (D x.1)) t <;> cases e2 : lt (K (D x.2)) t <;> simp_all
        · simp only [c1, c2, if_false]
    · have hl' : lt (K (D x.2)) (K (D x.1)) = false := by simpa using hl
      have up : lt (K (D x.2)) t = true → lt (K (D x.1)) t = true := fun e => by
        cases e3 : lt (K (D x.1)) t with
        | true => rfl
        | false =>
          have := hO.ntrans _ _ _ hl' e3
          rw [e] at this; cases this
      simp only [hl', if_false, Bool.false_eq_true]
      by_cases c1 : i = x.1
      · subst c1
        simp only [if_true]
        cases e1 : lt (K (D x.1)) t <;> cases e2 : lt (K (D x.2)) t <;> simp_all
      · by_cases c2 : i = x.2
        · subst c2
          simp only [hne, if_false, if_true]
          cases e1 : lt (K (D x.1)) t <;> cases e2 : lt (K (D x.2)) t <;> simp_all
        · simp only [c1, c2, if_false]
theorem runD_sorted (hO : Go.Sort.SWO lt) (n : Nat) (D : Nat → Nat) : SrtS lt K 0 n (runD lt K D (netL n)) := by
  intro i j _ hij hj
  cases e : lt (K (runD lt K D (netL n) j)) (K (runD lt K D (netL n) i)) with
  | false => rfl
  | true =>
    have h := runD_bool lt K hO (K (runD lt K D (netL n) i)) (n := n) (l := netL n) (fun x hx => netL_mem hx) D
    have hi := congrFun h i
    have hj' := congrFun h j
    simp only [hO.irrefl, Bool.not_false] at hi
    have := net_bool _ hij hj hi.symm
    rw [this, e] at hj'
    cases hj'
end
/-- A permutation of the places that leaves the rows in order gives the rows in order. -/
theorem srtP_of {c : Int} {dn : Bool} {k : Nat} {w : Nat → Nat} {h : Nat → Nat → Int} {r : Nat → Bool} {D E : Nat → Nat} (hD : ∀ j, j < k → D j = j) (hP : SegP 0 k D E) (hS : SrtS (ltX c dn) (itm w h r) 0 k E) : (List.range k).map (fun j => itm w h r (E j)) = srtP c dn (itL k w h r) := by
  refine srtP_eq ?_ ?_
  · have := hP.perm
    rw [Nat.sub_zero, ← List.range_eq_range'] at this
    have e2 : (List.range k).map D = List.range k := by
      rw [show (List.range k).map D = (List.range k).map id from List.map_congr_left fun j hj => hD j (by simpa using hj), List.map_id]
    rw [e2] at this
    have := this.map (itm w h r)
    rw [List.map_map] at this
    exact this
  · rw [List.pairwise_iff_getElem]
    intro i j hi hj hij
    simp only [List.getElem_map, List.getElem_range]
    exact hS i j (Nat.zero_le _) hij (by simpa using hj)
/-! ### the program's -/
def emB (s : ByteArray) : Bool := s.toList == (ByteArray.mk #[]).toList
def spB (n : Nat) (f : Nat → ByteArray) (m : Nat) (w : Nat → Nat) (h : Nat → Nat → Int) (k : Nat) (r : Nat → Bool) (s : ByteArray) : Bool := padB n f m w h k r && (emB s || hasT f s n)
theorem c_srK (n : Nat) (f : Nat → ByteArray) (m : Nat) (w : Nat → Nat) (h : Nat → Nat → Int) (k : Nat) (r : Nat → Bool) (s : ByteArray) (dn : Bool) (ok : SrOk n f m w h r ∧ k = m) : PObj Tryd.prog G0 22 [PD false false false n f m w h k r, AT s, AB dn] [] soR (soH n f (srtP (colT f s n) dn (itL m w h r)) (trL 2 (netL m))) := by
  obtain ⟨ok, rfl⟩ := ok
  exact c_srt n f k w h r s dn ok
theorem c_pvK (n : Nat) (f : Nat → ByteArray) (m : Nat) (w : Nat → Nat) (h : Nat → Nat → Int) (k : Nat) (r : Nat → Bool) (ok : PdOk n f m w k) : PRet Tryd.prog G0 13 [PD false false false n f m w h k r] (AB (padB n f m w h k r)) := c_imPV n f m w h k r ok
theorem ev_imSP : ∀ (n : Nat) (f : Nat → ByteArray) (m : Nat) (w : Nat → Nat) (h : Nat → Nat → Int) (k : Nat) (r : Nat → Bool) (s : ByteArray) (dn : Bool), ev G0 res5 [] (3000 : Nat) (Or.call [] (AB (padB n f m w h k r)) [] (Or.nil.lit.lit.lit.lit.lit.split ((Or.call [] (AB (hasT f s n)) [] (Or.nil.split (Or.call [] soR (soH n f (srtP (colT f s n) dn (itL m w h r)) (trL (2 : Nat) (netL m))) Or.nil)).lit.lit.lit.lit).lit.lit.lit.split (Or.call [] soR (soH n f (srtP (colT f s n) dn (itL m w h r)) (trL (2 : Nat) (netL m))) Or.nil).lit.lit.lit.lit.lit.lit.lit.lit).lit.lit)) [Item.ir ir5] (start [PD false false false n f m w h k r, AT s, AB dn] []) = VC.call (13 : Nat) [AV.ag [AV.p false (PV.sl false (1 : Nat) n fun (i x : Nat) => PT (f i)), AV.p false (PV.sl false (1 : Nat) m (RR w h)), AV.p false (PV.sl false (1 : Nat) k (MK r))]] [] (AB (padB n f m w h k r)) [] (VC.split (!padB n f m w h k r) (VC.done (St.mk [((0 : Nat), AV.ag [AV.p false (PV.sl false (1 : Nat) n fun (i x : Nat) => PT (f i)), AV.p false (PV.sl false (1 : Nat) m (RR w h)), AV.p false (PV.sl false (1 : Nat) k (MK r))]), ((1 : Nat), AV.p true (PV.v (Value.string s))), ((2 : Nat), AV.p true (PV.v (Value.bool dn))), ((3 : Nat), AV.adr (3 : Nat) (0 : Nat)), ((6 : Nat), AV.adr (6 : Nat) (0 : Nat)), ((7 : Nat), AV.p true (PV.v (Value.slice none (0 : Nat) (0 : Nat)))), ((8 : Nat), AV.p true (PV.v (Value.bool false))), ((24 : Nat), AV.p true (PV.v (Value.bool true)))] [((3 : Nat), Ob.box [AV.p false (PV.sl false (1 : Nat) n fun (i x : Nat) => PT (f i)), AV.p false (PV.sl false (1 : Nat) m (RR w h)), AV.p false (PV.sl false (1 : Nat) k (MK r))]), ((6 : Nat), Ob.box [AV.p true (PV.v (Value.slice none (0 : Nat) (0 : Nat))), AV.p true (PV.v (Value.slice none (0 : Nat) (0 : Nat))), AV.p true (PV.v (Value.slice none (0 : Nat) (0 : Nat)))])])) (VC.split (!s.toList == (ByteArray.mk #[]).toList) (VC.call (21 : Nat) [AV.p false (PV.sl false (1 : Nat) n fun (i x : Nat) => PT (f i)), AV.p true (PV.v (Value.string s))] [] (AB (hasT f s n)) [] (VC.split (!hasT f s n) (VC.done (St.mk [((0 : Nat), AV.ag [AV.p false (PV.sl false (1 : Nat) n fun (i x : Nat) => PT (f i)), AV.p false (PV.sl false (1 : Nat) m (RR w h)), AV.p false (PV.sl false (1 : Nat) k (MK r))]), ((1 : Nat), AV.p true (PV.v (Value.string s))), ((2 : Nat), AV.p true (PV.v (Value.bool dn))), ((3 : Nat), AV.adr (3 : Nat) (0 : Nat)), ((6 : Nat), AV.adr (6 : Nat) (0 : Nat)), ((7 : Nat), AV.p true (PV.v (Value.slice none (0 : Nat) (0 : Nat)))), ((8 : Nat), AV.p true (PV.v (Value.bool false))), ((24 : Nat), AV.p true (PV.v (Value.bool !hasT f s n)))] [((3 : Nat), Ob.box [AV.p false (PV.sl false (1 : Nat) n fun (i x : Nat) => PT (f i)), AV.p false (PV.sl false (1 : Nat) m (RR w h)), AV.p false (PV.sl false (1 : Nat) k (MK r))]), ((6 : Nat), Ob.box [AV.p true (PV.v (Value.slice none (0 : Nat) (0 : Nat))), AV.p true (PV.v (Value.slice none (0 : Nat) (0 : Nat))), AV.p true (PV.v (Value.slice none (0 : Nat) (0 : Nat)))])])) (VC.call (22 : Nat) [AV.ag [AV.p false (PV.sl false (1 : Nat) n fun (i x : Nat) => PT (f i)), AV.p false (PV.sl false (1 : Nat) m (RR w h)), AV.p false (PV.sl false (1 : Nat) k (MK r))], AV.p true (PV.v (Value.string s)), AV.p true (PV.v (Value.bool dn))] [] soR (soH n f (srtP (colT f s n) dn (itL m w h r)) (trL (2 : Nat) (netL m))) (VC.done (St.mk [((0 : Nat), AV.ag [AV.p false (PV.sl false (1 : Nat) n fun (i x : Nat) => PT (f i)), AV.p false (PV.sl false (1 : Nat) m (RR w h)), AV.p false (PV.sl false (1 : Nat) k (MK r))]), ((1 : Nat), AV.p true (PV.v (Value.string s))), ((2 : Nat), AV.p true (PV.v (Value.bool dn))), ((3 : Nat), AV.adr (3 : Nat) (0 : Nat)), ((6 : Nat), AV.adr (6 : Nat) (0 : Nat)), ((7 : Nat), AV.own (4030 : Nat)), ((8 : Nat), AV.p true (PV.v (Value.bool true))), ((24 : Nat), AV.p true (PV.v (Value.bool !hasT f s n))), ((9 : Nat), AV.adr (9 : Nat) (0 : Nat)), ((10 : Nat), AV.own (4030 : Nat))] [((3 : Nat), Ob.box [AV.p false (PV.sl false (1 : Nat) n fun (i x : Nat) => PT (f i)), AV.p false (PV.sl false (1 : Nat) m (RR w h)), AV.p false (PV.sl false (1 : Nat) k (MK r))]), ((6 : Nat), Ob.box [AV.own (1030 : Nat), AV.own (2030 : Nat), AV.own (3030 : Nat)]), ((1030 : Nat), Ob.row Mode.u false (1 : Nat) n (TR f) []), ((2030 : Nat), Ob.row Mode.u false (1 : Nat) (List.length (srtP (colT f s n) dn (itL m w h r))) (RR (iw (srtP (colT f s n) dn (itL m w h r))) (ih (srtP (colT f s n) dn (itL m w h r)))) []), ((3030 : Nat), Ob.row Mode.u false (1 : Nat) (List.length (srtP (colT f s n) dn (itL m w h r))) (MK (ib (srtP (colT f s n) dn (itL m w h r)))) []), ((4030 : Nat), Ob.row Mode.u false (3 : Nat) (List.length (trL (2 : Nat) (netL m))) (CB (trL (2 : Nat) (netL m))) []), ((9 : Nat), Ob.box [AV.own (1030 : Nat), AV.own (2030 : Nat), AV.own (3030 : Nat)])]))))) (VC.call (22 : Nat) [AV.ag [AV.p false (PV.sl false (1 : Nat) n fun (i x : Nat) => PT (f i)), AV.p false (PV.sl false (1 : Nat) m (RR w h)), AV.p false (PV.sl false (1 : Nat) k (MK r))], AV.p true (PV.v (Value.string s)), AV.p true (PV.v (Value.bool dn))] [] soR (soH n f (srtP (colT f s n) dn (itL m w h r)) (trL (2 : Nat) (netL m))) (VC.done (St.mk [((0 : Nat), AV.ag [AV.p false (PV.sl false (1 : Nat) n fun (i x : Nat) => PT (f i)), AV.p false (PV.sl false (1 : Nat) m (RR w h)), AV.p false (PV.sl false (1 : Nat) k (MK r))]), ((1 : Nat), AV.p true (PV.v (Value.string s))), ((2 : Nat), AV.p true (PV.v (Value.bool dn))), ((3 : Nat), AV.adr (3 : Nat) (0 : Nat)), ((6 : Nat), AV.adr (6 : Nat) (0 : Nat)), ((7 : Nat), AV.own (4030 : Nat)), ((8 : Nat), AV.p true (PV.v (Value.bool true))), ((24 : Nat), AV.p true (PV.v (Value.bool false))), ((9 : Nat), AV.adr (9 : Nat) (0 : Nat)), ((10 : Nat), AV.own (4030 : Nat))] [((3 : Nat), Ob.box [AV.p false (PV.sl false (1 : Nat) n fun (i x : Nat) => PT (f i)), AV.p false (PV.sl false (1 : Nat) m (RR w h)), AV.p false (PV.sl false (1 : Nat) k (MK r))]), ((6 : Nat), Ob.box [AV.own (1030 : Nat), AV.own (2030 : Nat), AV.own (3030 : Nat)]), ((1030 : Nat), Ob.row Mode.u false (1 : Nat) n (TR f) []), ((2030 : Nat), Ob.row Mode.u false (1 : Nat) (List.length (srtP (colT f s n) dn (itL m w h r))) (RR (iw (srtP (colT f s n) dn (itL m w h r))) (ih (srtP (colT f s n) dn (itL m w h r)))) []), ((3030 : Nat), Ob.row Mode.u false (1 : Nat) (List.length (srtP (colT f s n) dn (itL m w h r))) (MK (ib (srtP (colT f s n) dn (itL m w h r)))) []), ((4030 : Nat), Ob.row Mode.u false (3 : Nat) (List.length (trL (2 : Nat) (netL m))) (CB (trL (2 : Nat) (netL m))) []), ((9 : Nat), Ob.box [AV.own (1030 : Nat), AV.own (2030 : Nat), AV.own (3030 : Nat)])]))))) := by intros; kernel_rfl
/-! ### the model's -/
theorem ev_ownP : ∀ (n : Nat) (f : Nat → ByteArray) (m : Nat) (w : Nat → Nat) (h : Nat → Nat → Int) (k : Nat) (r : Nat → Bool), ev G0 res23 [] (3000 : Nat) (Or.call [] (AV.own (0 : Nat)) [((0 : Nat), Ob.row Mode.u false (1 : Nat) m (RR w h) [])] Or.nil) [Item.ir ir23] (start [PD false false false n f m w h k r] []) = VC.need ((((0 : Nat) + n) * (16 : Nat) ≤ (140737488355328 : Nat) ∧ (↑((0 : Nat) + n) : Int) ≤ (9223372036854775807 : Int)) ∧ allV (1 : Nat) n fun (i x : Nat) => PT (f i)) (VC.call (56 : Nat) [AV.p false (PV.sl false (1 : Nat) m (RR w h))] [] (AV.own (0 : Nat)) [((0 : Nat), Ob.row Mode.u false (1 : Nat) m (RR w h) [])] (VC.need ((((0 : Nat) + k) * (1 : Nat) ≤ (140737488355328 : Nat) ∧ (↑((0 : Nat) + k) : Int) ≤ (9223372036854775807 : Int)) ∧ allV (1 : Nat) k (MK r)) (VC.done (St.mk [((0 : Nat), AV.ag [AV.p false (PV.sl false (1 : Nat) n fun (i x : Nat) => PT (f i)), AV.p false (PV.sl false (1 : Nat) m (RR w h)), AV.p false (PV.sl false (1 : Nat) k (MK r))]), ((1 : Nat), AV.adr (1 : Nat) (0 : Nat)), ((2 : Nat), AV.adr (2 : Nat) (0 : Nat)), ((3 : Nat), AV.adr (3 : Nat) (0 : Nat))] [((1 : Nat), Ob.box [AV.p false (PV.sl false (1 : Nat) n fun (i x : Nat) => PT (f i)), AV.p false (PV.sl false (1 : Nat) m (RR w h)), AV.p false (PV.sl false (1 : Nat) k (MK r))]), ((2 : Nat), Ob.box [AV.own (8 : Nat), AV.own (1012 : Nat), AV.own (17 : Nat)]), ((3 : Nat), Ob.box [AV.own (8 : Nat), AV.own (1012 : Nat), AV.own (17 : Nat)]), ((8 : Nat), Ob.row Mode.u true (1 : Nat) ((0 : Nat) + n) (fun (a b : Nat) => if a < (0 : Nat) then setG [] (fun (x j : Nat) => PV.v ([Value.string (ByteArray.mk #[])].getD j undef)) a b else PT (f (a - (0 : Nat)))) []), ((1012 : Nat), Ob.row Mode.u false (1 : Nat) m (RR w h) []), ((17 : Nat), Ob.row Mode.u true (1 : Nat) ((0 : Nat) + k) (fun (a b : Nat) => if a < (0 : Nat) then setG [] (fun (x j : Nat) => PV.v ([Value.bool false].getD j undef)) a b else MK r (a - (0 : Nat)) b) [])])))) := by intros; kernel_rfl
theorem ev_cpP : ∀ (n : Nat) (f : Nat → ByteArray) (m : Nat) (w : Nat → Nat) (h : Nat → Nat → Int) (k : Nat) (r : Nat → Bool), ev G0 res59 [] (3000 : Nat) Or.nil [Item.ir ir59] (start [PD false false false n f m w h k r] []) = VC.need ((((0 : Nat) + n) * (16 : Nat) ≤ (140737488355328 : Nat) ∧ (↑((0 : Nat) + n) : Int) ≤ (9223372036854775807 : Int)) ∧ allV (1 : Nat) n fun (i x : Nat) => PT (f i)) (VC.need ((((0 : Nat) + k) * (1 : Nat) ≤ (140737488355328 : Nat) ∧ (↑((0 : Nat) + k) : Int) ≤ (9223372036854775807 : Int)) ∧ allV (1 : Nat) k (MK r)) (VC.loop ir59_L1 [Item.bend (0 : Nat), Item.ir ir59_T2] (St.mk [((0 : Nat), AV.ag [AV.p false (PV.sl false (1 : Nat) n fun (i x : Nat) => PT (f i)), AV.p false (PV.sl false (1 : Nat) m (RR w h)), AV.p false (PV.sl false (1 : Nat) k (MK r))]), ((1 : Nat), AV.adr (1 : Nat) (0 : Nat)), ((2 : Nat), AV.adr (2 : Nat) (0 : Nat)), ((3 : Nat), AV.adr (3 : Nat) (0 : Nat)), ((4 : Nat), AV.p true (PV.v (Value.int IntKind.i64 (0 : Int))))] [((1 : Nat), Ob.box [AV.p false (PV.sl false (1 : Nat) n fun (i x : Nat) => PT (f i)), AV.p false (PV.sl false (1 : Nat) m (RR w h)), AV.p false (PV.sl false (1 : Nat) k (MK r))]), ((2 : Nat), Ob.box [AV.p true (PV.v (Value.slice none (0 : Nat) (0 : Nat))), AV.p true (PV.v (Value.slice none (0 : Nat) (0 : Nat))), AV.p true (PV.v (Value.slice none (0 : Nat) (0 : Nat)))]), ((8 : Nat), Ob.row Mode.u true (1 : Nat) ((0 : Nat) + n) (fun (a b : Nat) => if a < (0 : Nat) then setG [] (fun (x j : Nat) => PV.v ([Value.string (ByteArray.mk #[])].getD j undef)) a b else PT (f (a - (0 : Nat)))) []), ((12 : Nat), Ob.row Mode.u true (1 : Nat) ((0 : Nat) + k) (fun (a b : Nat) => if a < (0 : Nat) then setG [] (fun (x j : Nat) => PV.v ([Value.bool false].getD j undef)) a b else MK r (a - (0 : Nat)) b) []), ((3 : Nat), Ob.box [AV.own (8 : Nat), AV.p true (PV.v (Value.slice none (0 : Nat) (0 : Nat))), AV.own (12 : Nat)])]))) := by intros; kernel_rfl
theorem ev_bef : ∀ (n : Nat) (f : Nat → ByteArray) (m : Nat) (w : Nat → Nat) (h : Nat → Nat → Int) (r : Nat → Bool) (a b : Nat) (c : Int) (dn : Bool), ev G0 res60 [] (3000 : Nat) (Or.nil.split ((Or.nil.split (Or.call [] (AB (ltL (rowL (w (↑a : Int).toNat) (h (↑a : Int).toNat) (0 : Nat)) (rowL (w (↑b : Int).toNat) (h (↑b : Int).toNat) (0 : Nat)))) [] Or.nil)).lit.lit.lit.lit.lit.lit.lit.lit.lit.lit.lit.lit.lit.lit.lit.lit.lit.split (Or.call [] (AB (ltL (rowL (w (↑a : Int).toNat) (h (↑a : Int).toNat) (0 : Nat)) (rowL (w (↑b : Int).toNat) (h (↑b : Int).toNat) (0 : Nat)))) [] Or.nil).lit.lit.lit.lit.lit.lit.lit.lit.lit.lit.lit.lit.lit.lit.lit.lit.lit.lit)) [Item.ir ir60] (start [PD false false false n f m w h m r, AI (↑a : Int), AI (↑b : Int), AI c, AB dn] []) = VC.need ((0 : Int) ≤ (↑a : Int) ∧ (↑a : Int).toNat < m) (VC.need ((0 : Int) ≤ (↑b : Int) ∧ (↑b : Int).toNat < m) (VC.split (!r (↑a : Int).toNat == r (↑b : Int).toNat) (VC.need ((0 : Int) ≤ (↑a : Int) ∧ (↑a : Int).toNat < m) (VC.doneP (AV.p true (PV.v (Value.bool (r (↑a : Int).toNat)))))) (VC.split (decide ((0 : Int) ≤ c)) (VC.need ((0 : Int) ≤ (↑a : Int) ∧ (↑a : Int).toNat < m) (VC.need ((0 : Int) ≤ c ∧ c.toNat < w (↑a : Int).toNat) (VC.need ((0 : Int) ≤ (↑b : Int) ∧ (↑b : Int).toNat < m) (VC.need ((0 : Int) ≤ c ∧ c.toNat < w (↑b : Int).toNat) (VC.split (h (↑a : Int).toNat c.toNat != h (↑b : Int).toNat c.toNat) (VC.need ((0 : Int) ≤ (↑a : Int) ∧ (↑a : Int).toNat < m) (VC.need ((0 : Int) ≤ c ∧ c.toNat < w (↑a : Int).toNat) (VC.need ((0 : Int) ≤ (↑b : Int) ∧ (↑b : Int).toNat < m) (VC.need ((0 : Int) ≤ c ∧ c.toNat < w (↑b : Int).toNat) (VC.doneP (AV.p true (PV.v (Value.bool !decide (h (↑a : Int).toNat c.toNat < h (↑b : Int).toNat c.toNat) == dn)))))))) (VC.need ((0 : Int) ≤ (↑a : Int) ∧ (↑a : Int).toNat < m) (VC.need ((0 : Int) ≤ (↑b : Int) ∧ (↑b : Int).toNat < m) (VC.call (73 : Nat) [AV.p false (PV.sl false (1 : Nat) (w (↑a : Int).toNat) fun (j x : Nat) => PI (h (↑a : Int).toNat j)), AV.p false (PV.sl false (1 : Nat) (w (↑b : Int).toNat) fun (j x : Nat) => PI (h (↑b : Int).toNat j))] [] (AB (ltL (rowL (w (↑a : Int).toNat) (h (↑a : Int).toNat) (0 : Nat)) (rowL (w (↑b : Int).toNat) (h (↑b : Int).toNat) (0 : Nat)))) [] (VC.doneP (AV.p true (PV.v (Value.bool (ltL (rowL (w (↑a : Int).toNat) (h (↑a : Int).toNat) (0 : Nat)) (rowL (w (↑b : Int).toNat) (h (↑b : Int).toNat) (0 : Nat))))))))))))))) (VC.need ((0 : Int) ≤ (↑a : Int) ∧ (↑a : Int).toNat < m) (VC.need ((0 : Int) ≤ (↑b : Int) ∧ (↑b : Int).toNat < m) (VC.call (73 : Nat) [AV.p false (PV.sl false (1 : Nat) (w (↑a : Int).toNat) fun (j x : Nat) => PI (h (↑a : Int).toNat j)), AV.p false (PV.sl false (1 : Nat) (w (↑b : Int).toNat) fun (j x : Nat) => PI (h (↑b : Int).toNat j))] [] (AB (ltL (rowL (w (↑a : Int).toNat) (h (↑a : Int).toNat) (0 : Nat)) (rowL (w (↑b : Int).toNat) (h (↑b : Int).toNat) (0 : Nat)))) [] (VC.doneP (AV.p true (PV.v (Value.bool (ltL (rowL (w (↑a : Int).toNat) (h (↑a : Int).toNat) (0 : Nat)) (rowL (w (↑b : Int).toNat) (h (↑b : Int).toNat) (0 : Nat))))))))))))) := by intros; kernel_rfl
/-! ### contracts -/
theorem pad_parts {n : Nat} {f : Nat → ByteArray} {m : Nat} {w : Nat → Nat} {h : Nat → Nat → Int} {k : Nat} {r : Nat → Bool} (hp : padB n f m w h k r = true) : namesB n f = true ∧ m ≤ 256 ∧ k = m ∧ (∀ i, i < m → w i = n ∧ ∀ j, j < n → valB (h i j) = true) ∧ ∀ i, i < m → r i = false → ∀ j, j < n → h i j = 0 := by
  simp only [padB, Bool.and_eq_true, decide_eq_true_eq] at hp
  obtain ⟨⟨⟨⟨h1, h2⟩, h3⟩, h4⟩, h5⟩ := hp
  have hr : ∀ i, i < m → w i = n ∧ ∀ j, j < n → valB (h i j) = true := fun i hi => by
    have := allB_iff.1 h4 i hi
    simp only [rowB, Bool.and_eq_true, decide_eq_true_eq] at this
    exact ⟨this.1, fun j hj => allB_iff.1 this.2 j (by rw [this.1]; exact hj)⟩
  refine ⟨h1, h2, h3, hr, fun i hi e j hj => ?_⟩
  have := allB_iff.1 h5 i hi
  simp only [zB, e, Bool.false_or] at this
  have := allB_iff.1 this j (by rw [(hr i hi).1]; exact hj)
  simpa using this
theorem pad_sr {n : Nat} {f : Nat → ByteArray} {m : Nat} {w : Nat → Nat} {h : Nat → Nat → Int} {k : Nat} {r : Nat → Bool} (hn : n ≤ 1048576) (hp : padB n f m w h k r = true) (hm : m ≤ 20) : SrOk n f m w h r :=
  have := pad_parts hp
  ⟨hn, hm, fun i hi => (this.2.2.2.1 i hi).1, this.2.2.2.2⟩
abbrev spR (b : Bool) : AV := .tp [pdR, .own 3, AB b]
def spT (n : Nat) (f : Nat → ByteArray) (m : Nat) (w : Nat → Nat) (h : Nat → Nat → Int) (k : Nat) (r : Nat → Bool) (s : ByteArray) (dn : Bool) : LI := if spB n f m w h k r s then srtP (colT f s n) dn (itL m w h r) else []
def spL (n : Nat) (f : Nat → ByteArray) (m : Nat) (w : Nat → Nat) (h : Nat → Nat → Int) (k : Nat) (r : Nat → Bool) (s : ByteArray) : LA := if spB n f m w h k r s then trL 2 (netL m) else []
def spN (n : Nat) (f : Nat → ByteArray) (m : Nat) (w : Nat → Nat) (h : Nat → Nat → Int) (k : Nat) (r : Nat → Bool) (s : ByteArray) : Nat := if spB n f m w h k r s then n else 0
abbrev spH (n : Nat) (f : Nat → ByteArray) (m : Nat) (w : Nat → Nat) (h : Nat → Nat → Int) (k : Nat) (r : Nat → Bool) (s : ByteArray) (dn : Bool) : List (Nat × Ob) := soH (spN n f m w h k r s) f (spT n f m w h k r s dn) (spL n f m w h k r s)
structure SpOk (n : Nat) (f : Nat → ByteArray) (m : Nat) (w : Nat → Nat) (h : Nat → Nat → Int) (k : Nat) (r : Nat → Bool) : Prop where
  pd : PdOk n f m w k
  hv : padB n f m w h k r = true → m ≤ 20
theorem c_imSP (n : Nat) (f : Nat → ByteArray) (m : Nat) (w : Nat → Nat) (h : Nat → Nat → Int) (k : Nat) (r : Nat → Bool) (s : ByteArray) (dn : Bool) (ok : SpOk n f m w h k r) : PObj Tryd.prog G0 5 [PD false false false n f m w h k r, AT s, AB dn] [] (spR (spB n f m w h k r s)) (spH n f m w h k r s dn) := by
  refine PObj.by chk5 rfl (ev_imSP n f m w h k r s dn) ?_
  have hn := ok.pd.ta.hn
  have hsv : ∀ b : Bool, spB n f m w h k r s = b → (spR (spB n f m w h k r s) = spR b ∧ spH n f m w h k r s dn = soH (if b then n else 0) f (if b then srtP (colT f s n) dn (itL m w h r) else []) (if b then trL 2 (netL m) else [])) := fun b e => by
    subst e; exact ⟨rfl, rfl⟩
  simp only [VC.holds_split, VC.holds_need, VC.holds_doneP, VC.holds_done, VC.holds_either, VC.holds_call, VC.holds_callE, VC.holds_lend, VC.holds_stop, VC.holds_fail, decide_eq_true_eq, decide_eq_false_iff_not]
  refine ⟨c_pvK _ _ _ _ _ _ _ ok.pd, fun h1 => ?_, fun h1 => ⟨fun h2 => ⟨c_hasT _ _ _ _ hn, fun h3 => ?_, fun h3 => ⟨c_srK _ _ _ _ _ _ _ _ _ ?_, ?_⟩⟩, fun h2 => ⟨c_srK _ _ _ _ _ _ _ _ _ ?_, ?_⟩⟩⟩
  · have e : spB n f m w h k r s = false := by
      have : padB n f m w h k r = false := by simpa using h1
      simp [spB, this]
    rw [(hsv _ e).1, (hsv _ e).2]
    refine ResOk.mk [] [] [0, 1, 2, 3] _ _ ?_ ⟨rfl, rfl⟩
    simp [doneC, resOf, resAV, tup, pinR, PV.Le_self, hbs, St.lowers, St.lower, stLe, leEnv, leObs, obLe, injB, pinC, AV.leC, AV.leCs, PV.leC, PV.Le_v, St.get, St.obj, look, rho, isNew, keptC, renH, Mode.ok, Mode.isZ, PV.isVal, PV.isNilSl, List.all_nil, List.all_cons, List.any_nil, List.any_cons, List.map_nil, List.map_cons, res5, AV.leCs]
  · have e : spB n f m w h k r s = false := by
      have h4 : hasT f s n = false := by simpa using h3
      have h5 : emB s = false := by simpa [emB] using h2
      simp [spB, h4, h5]
    rw [(hsv _ e).1, (hsv _ e).2]
    refine ResOk.mk [] [] [0, 1, 2, 3] _ _ ?_ ⟨rfl, rfl⟩
    simp [doneC, resOf, resAV, tup, pinR, PV.Le_self, hbs, St.lowers, St.lower, stLe, leEnv, leObs, obLe, injB, pinC, AV.leC, AV.leCs, PV.leC, PV.Le_v, St.get, St.obj, look, rho, isNew, keptC, renH, Mode.ok, Mode.isZ, PV.isVal, PV.isNilSl, List.all_nil, List.all_cons, List.any_nil, List.any_cons, List.map_nil, List.map_cons, res5, AV.leCs]
  · have hp : padB n f m w h k r = true := by simpa using h1
    exact ⟨pad_sr hn hp (ok.hv hp), (pad_parts hp).2.2.1⟩
  · have hp : padB n f m w h k r = true := by simpa using h1
    have e : spB n f m w h k r s = true := by
      have h4 : hasT f s n = true := by simpa using h3
      simp [spB, h4, hp]
    rw [(hsv _ e).1, (hsv _ e).2]
    refine ResOk.mk [] [(0, 1030), (1, 2030), (2, 3030), (3, 4030)] [] _ _ ?_ ⟨rfl, rfl⟩
    simp [doneC, resOf, resAV, tup, pinR, PV.Le_self, hbs, St.lowers, St.lower, stLe, leEnv, leObs, obLe, injB, pinC, AV.leC, AV.leCs, PV.leC, PV.Le_v, St.get, St.obj, look, rho, isNew, keptC, renH, Mode.ok, Mode.isZ, PV.isVal, PV.isNilSl, List.all_nil, List.all_cons, List.any_nil, List.any_cons, List.map_nil, List.map_cons, res5, AV.leCs]
  · have hp : padB n f m w h k r = true := by simpa using h1
    exact ⟨pad_sr hn hp (ok.hv hp), (pad_parts hp).2.2.1⟩
  · have hp : padB n f m w h k r = true := by simpa using h1
    have e : spB n f m w h k r s = true := by
      have h5 : emB s = true := by simpa [emB] using h2
      simp [spB, h5, hp]
    rw [(hsv _ e).1, (hsv _ e).2]
    refine ResOk.mk [] [(0, 1030), (1, 2030), (2, 3030), (3, 4030)] [] _ _ ?_ ⟨rfl, rfl⟩
    simp [doneC, resOf, resAV, tup, pinR, PV.Le_self, hbs, St.lowers, St.lower, stLe, leEnv, leObs, obLe, injB, pinC, AV.leC, AV.leCs, PV.leC, PV.Le_v, St.get, St.obj, look, rho, isNew, keptC, renH, Mode.ok, Mode.isZ, PV.isVal, PV.isNilSl, List.all_nil, List.all_cons, List.any_nil, List.any_cons, List.map_nil, List.map_cons, res5, AV.leCs]
/-! ### the model's parts -/
abbrev pkH (n : Nat) (f : Nat → ByteArray) (m : Nat) (w : Nat → Nat) (h : Nat → Nat → Int) (k : Nat) (r : Nat → Bool) : List (Nat × Ob) := [(0, .row .u false 1 n (TR f) []), (1, .row .u false 1 m (RR w h) []), (2, .row .u false 1 k (MK r) [])]
theorem allV_MK {n : Nat} {r : Nat → Bool} : allV 1 n (MK r) := fun _ _ _ _ => rfl
theorem c_ownP (n : Nat) (f : Nat → ByteArray) (m : Nat) (w : Nat → Nat) (h : Nat → Nat → Int) (k : Nat) (r : Nat → Bool) (ok : PdOk n f m w k) : PObj Tryd.prog G0 23 [PD false false false n f m w h k r] [] pdR (pkH n f m w h k r) := by
  have hn := ok.ta.hn
  have hk := ok.hk
  refine PObj.by chk23 rfl (ev_ownP n f m w h k r) ?_
  simp only [VC.holds_split, VC.holds_need, VC.holds_doneP, VC.holds_done, VC.holds_either, VC.holds_call, VC.holds_callE, VC.holds_lend, VC.holds_stop, VC.holds_fail, decide_eq_true_eq, decide_eq_false_iff_not, Nat.zero_add]
  refine ⟨⟨⟨by omega, by omega⟩, allV_TR⟩, c_ownR _ _ _ _ ok.ta.hm ok.ta.hw, ⟨⟨by omega, by omega⟩, allV_MK⟩, ?_⟩
  refine ResOk.mk [] [(0, 8), (1, 1012), (2, 17)] [] _ _ ?_ ⟨rfl, rfl⟩
  simp [doneC, resOf, resAV, tup, pinR, PV.Le_self, hbs, St.lowers, St.lower, stLe, leEnv, leObs, obLe, injB, pinC, AV.leC, AV.leCs, PV.leC, PV.Le_v, St.get, St.obj, look, rho, isNew, keptC, renH, Mode.ok, Mode.isZ, PV.isVal, PV.isNilSl, List.all_nil, List.all_cons, List.any_nil, List.any_cons, List.map_nil, List.map_cons, res23, AV.leCs]
theorem c_bef (n : Nat) (f : Nat → ByteArray) (m : Nat) (w : Nat → Nat) (h : Nat → Nat → Int) (r : Nat → Bool) (a b : Nat) (c : Int) (dn : Bool) (ok : a < m ∧ b < m ∧ (∀ i, i < m → 0 ≤ c → c.toNat < w i) ∧ ∀ i, i < m → w i ≤ 1048576) : PRet Tryd.prog G0 60 [PD false false false n f m w h m r, AI a, AI b, AI c, AB dn] (AB (ltX c dn (itm w h r a) (itm w h r b))) := by
  obtain ⟨ha, hb, hc, hw⟩ := ok
  refine PRet.by chk60 (ev_bef n f m w h r a b c dn) ?_
  simp only [VC.holds_split, VC.holds_need, VC.holds_doneP, VC.holds_done, VC.holds_either, VC.holds_call, VC.holds_callE, VC.holds_lend, VC.holds_stop, VC.holds_fail, decide_eq_true_eq, decide_eq_false_iff_not, Int.toNat_natCast]
  refine ⟨by omega, by omega, fun h1 => ⟨by omega, ?_⟩, fun h1 => ⟨fun h2 => ?_, fun h2 => ⟨by omega, by omega, c_less _ _ _ _ _ _ (hw a ha), ?_⟩⟩⟩
  · have h3 : ¬ r a = r b := by simpa using h1
    simp [ltX_iff, itm, h3]
  · have h3 : r a = r b := by simpa using h1
    have ca := hc a ha h2
    have cb := hc b hb h2
    have ea := rowL_get (f := h a) ca
    have eb := rowL_get (f := h b) cb
    have hq : ltX c dn (itm w h r a) (itm w h r b) = ltO c.toNat dn (rowL (w a) (h a) 0) (rowL (w b) (h b) 0) := by
      rw [ltX_iff]; simp [itm, h3, ltQ, ordQ, h2, ltO]
    refine ⟨by omega, by omega, by omega, by omega, fun h4 => ⟨by omega, by omega, by omega, by omega, ?_⟩, fun h4 => ⟨by omega, by omega, c_less _ _ _ _ _ _ (hw a ha), ?_⟩⟩
    · have h5 : ¬ h a c.toNat = h b c.toNat := by simpa using h4
      rw [hq]
      simp only [ltO, ordL, ea, eb]
      rcases Int.lt_or_lt_of_ne h5 with c1 | c1
      · have c2 : ¬ h b c.toNat < h a c.toNat := by omega
        cases dn <;> simp [cmp3, h5, c1, c2]
      · have c2 : ¬ h a c.toNat < h b c.toNat := by omega
        cases dn <;> simp [cmp3, h5, c1, c2]
    · have h5 : h a c.toNat = h b c.toNat := by simpa using h4
      rw [hq]
      simp only [ltO, ordL, ea, eb, ltL]
      simp [h5]
  · have h3 : r a = r b := by simpa using h1
    rw [ltX_iff]; simp [itm, h3, ltQ, ordQ, h2, ltL]
def st_cpP (n : Nat) (f : Nat → ByteArray) (m : Nat) (w : Nat → Nat) (h : Nat → Nat → Int) (k : Nat) (r : Nat → Bool) (q : Nat) : St := ⟨[(1, .adr 1 0), (2, .adr 2 0), (3, .adr 3 0), (4, AI q)], [(1, .box [TL false n f, RL false m w h, ML false k r]), (2, .box [nilT, nilT, nilT]), (8, .row .u false 1 n (TR f) []), (12, .row .u false 1 k (MK r) []), (77777, .row .u false 1 q (RR w h) []), (3, .box [.own 8, .own 77777, .own 12])]⟩
theorem c_cpK (n : Nat) (f : Nat → Int) (hn : n ≤ 1048576) : PObj Tryd.prog G0 72 [IL false n f] [] (.own 0) [(0, .row .u false 1 n (fun i _ => PI (f i)) [])] := c_cpI n f hn
theorem evr_cpP : ∀ (n : Nat) (f : Nat → ByteArray) (m : Nat) (w : Nat → Nat) (h : Nat → Nat → Int) (k : Nat) (r : Nat → Bool) (I : Nat → St → Prop) (q : Nat), ev G0 res59 [] (3000 : Nat) ((Or.call [] (AV.own (0 : Nat)) [((0 : Nat), Ob.row Mode.u false (1 : Nat) (w (↑q : Int).toNat) (fun (i x : Nat) => PI (h (↑q : Int).toNat i)) [])] Or.nil).split Or.nil) [Item.ir ir59_L1, Item.lend (I q), Item.bend (0 : Nat), Item.ir ir59_T2] (st_cpP n f m w h k r q) = VC.split (decide ((↑q : Int) < (↑m : Int))) (VC.need ((0 : Int) ≤ (↑q : Int) ∧ (↑q : Int).toNat < m) (VC.call (72 : Nat) [AV.p false (PV.sl false (1 : Nat) (w (↑q : Int).toNat) fun (j x : Nat) => PI (h (↑q : Int).toNat j))] [] (AV.own (0 : Nat)) [((0 : Nat), Ob.row Mode.u false (1 : Nat) (w (↑q : Int).toNat) (fun (i x : Nat) => PI (h (↑q : Int).toNat i)) [])] (VC.need (((q + (1 : Nat)) * (24 : Nat) ≤ (140737488355328 : Nat) ∧ (↑(q + (1 : Nat)) : Int) ≤ (9223372036854775807 : Int)) ∧ allOne (1 : Nat) (1 : Nat) (setG [((0 : Nat), (0 : Nat), PV.sl false (1 : Nat) (w (↑q : Int).toNat) fun (i x : Nat) => PI (h (↑q : Int).toNat i))] fun (x j : Nat) => PV.v ([Value.slice none (0 : Nat) (0 : Nat)].getD j undef))) (VC.lend (I q) (St.mk [((1 : Nat), AV.adr (1 : Nat) (0 : Nat)), ((2 : Nat), AV.adr (2 : Nat) (0 : Nat)), ((3 : Nat), AV.adr (3 : Nat) (0 : Nat)), ((4 : Nat), AV.p true (PV.v (Value.int IntKind.i64 (IntKind.i64.wrap ((↑q : Int) + (1 : Int)))))), ((18 : Nat), AV.p true (PV.v (Value.bool (decide ((↑q : Int) < (↑m : Int))))))] [((1 : Nat), Ob.box [AV.p false (PV.sl false (1 : Nat) n fun (i x : Nat) => PT (f i)), AV.p false (PV.sl false (1 : Nat) m (RR w h)), AV.p false (PV.sl false (1 : Nat) k (MK r))]), ((2 : Nat), Ob.box [AV.p true (PV.v (Value.slice none (0 : Nat) (0 : Nat))), AV.p true (PV.v (Value.slice none (0 : Nat) (0 : Nat))), AV.p true (PV.v (Value.slice none (0 : Nat) (0 : Nat)))]), ((8 : Nat), Ob.row Mode.u false (1 : Nat) n (TR f) []), ((12 : Nat), Ob.row Mode.u false (1 : Nat) k (MK r) []), ((3 : Nat), Ob.box [AV.own (8 : Nat), AV.own (30 : Nat), AV.own (12 : Nat)]), ((30 : Nat), Ob.row Mode.u false (1 : Nat) (q + (1 : Nat)) (fun (a b : Nat) => if a < q then RR w h a b else setG [((0 : Nat), (0 : Nat), PV.sl false (1 : Nat) (w (↑q : Int).toNat) fun (i x : Nat) => PI (h (↑q : Int).toNat i))] (fun (x j : Nat) => PV.v ([Value.slice none (0 : Nat) (0 : Nat)].getD j undef)) (a - q) b) [])]))))) (VC.done (St.mk [((1 : Nat), AV.adr (1 : Nat) (0 : Nat)), ((2 : Nat), AV.adr (2 : Nat) (0 : Nat)), ((3 : Nat), AV.adr (3 : Nat) (0 : Nat)), ((4 : Nat), AV.p true (PV.v (Value.int IntKind.i64 (↑q : Int)))), ((18 : Nat), AV.p true (PV.v (Value.bool (decide ((↑q : Int) < (↑m : Int))))))] [((1 : Nat), Ob.box [AV.p false (PV.sl false (1 : Nat) n fun (i x : Nat) => PT (f i)), AV.p false (PV.sl false (1 : Nat) m (RR w h)), AV.p false (PV.sl false (1 : Nat) k (MK r))]), ((2 : Nat), Ob.box [AV.own (8 : Nat), AV.own (77777 : Nat), AV.own (12 : Nat)]), ((8 : Nat), Ob.row Mode.u false (1 : Nat) n (TR f) []), ((12 : Nat), Ob.row Mode.u false (1 : Nat) k (MK r) []), ((77777 : Nat), Ob.row Mode.u false (1 : Nat) q (RR w h) []), ((3 : Nat), Ob.box [AV.own (8 : Nat), AV.own (77777 : Nat), AV.own (12 : Nat)])])) := by intros; kernel_rfl
theorem c_cpP (n : Nat) (f : Nat → ByteArray) (m : Nat) (w : Nat → Nat) (h : Nat → Nat → Int) (k : Nat) (r : Nat → Bool) (ok : PdOk n f m w k) : PObj Tryd.prog G0 59 [PD false false false n f m w h k r] [] pdR (pkH n f m w h k r) := by
  have hn := ok.ta.hn
  have hk := ok.hk
  have hm := ok.ta.hm
  refine PObj.by chk59 rfl (ev_cpP n f m w h k r) ?_
  simp only [VC.holds_split, VC.holds_need, VC.holds_doneP, VC.holds_done, VC.holds_either, VC.holds_call, VC.holds_callE, VC.holds_lend, VC.holds_stop, VC.holds_fail, decide_eq_true_eq, decide_eq_false_iff_not, Nat.zero_add]
  refine ⟨⟨⟨by omega, by omega⟩, allV_TR⟩, ⟨⟨by omega, by omega⟩, allV_MK⟩, ?_⟩
  refine loop_by (st_cpP n f m w h k r) (fun q => q ≤ m) (fun q => m - q) 0 [] [] [77777] (Nat.zero_le _) ?_ (evr_cpP n f m w h k r) fun q hq => ?_
  · simp [st_cpP, hbs, St.lowers, St.lower, stLe, leEnv, leObs, obLe, injB, pinC, AV.leC, AV.leCs, PV.leC, PV.Le_v, St.get, St.obj, look, rho, isNew, keptC, renH, Mode.ok, Mode.isZ, PV.isVal, PV.isNilSl, List.all_nil, List.all_cons, List.any_nil, List.any_cons, List.map_nil, List.map_cons, PV.Le_self, AV.leCs]
  · have e1 : IntKind.i64.wrap ((q : Int) + 1) = ((q + 1 : Nat) : Int) := wrap_in (by omega) (by omega)
    simp only [VC.holds_split, VC.holds_need, VC.holds_doneP, VC.holds_done, VC.holds_either, VC.holds_call, VC.holds_callE, VC.holds_lend, VC.holds_stop, VC.holds_fail, decide_eq_true_eq, decide_eq_false_iff_not, Int.toNat_natCast]
    refine ⟨fun h1 => ⟨by omega, c_cpK _ _ (ok.ta.hw q (by omega)), ⟨⟨by omega, by omega⟩, allOne1 rfl⟩, Again.mk (q + 1) [] [(77777, 30)] [] (by omega) (by omega) ?_⟩, fun h1 => ?_⟩
    · simp [st_cpP, hbs, St.lowers, St.lower, stLe, leEnv, leObs, obLe, injB, pinC, AV.leC, AV.leCs, PV.leC, PV.Le_v, St.get, St.obj, look, rho, isNew, keptC, renH, Mode.ok, Mode.isZ, PV.isVal, PV.isNilSl, List.all_nil, List.all_cons, List.any_nil, List.any_cons, List.map_nil, List.map_cons, PV.Le_self, AV.leCs, e1]
      intro i hi
      by_cases e : i < q
      · simp [e]; exact .refl _
      · have e2 : i - q = 0 := by omega
        have e3 : i = q := by omega
        simp [e, e2, setG, cellSet]
        subst e3
        exact .refl _
    · have : q = m := by omega
      subst this
      refine ResOk.mk [] [(0, 8), (1, 77777), (2, 12)] [] _ _ ?_ ⟨rfl, rfl⟩
      simp [doneC, resOf, resAV, tup, pinR, PV.Le_self, hbs, St.lowers, St.lower, stLe, leEnv, leObs, obLe, injB, pinC, AV.leC, AV.leCs, PV.leC, PV.Le_v, St.get, St.obj, look, rho, isNew, keptC, renH, Mode.ok, Mode.isZ, PV.isVal, PV.isNilSl, List.all_nil, List.all_cons, List.any_nil, List.any_cons, List.map_nil, List.map_cons, res59, AV.leCs]
/-! ### the model's sort -/
theorem c_cpS (n : Nat) (f : Nat → ByteArray) (m : Nat) (w : Nat → Nat) (h : Nat → Nat → Int) (k : Nat) (r : Nat → Bool) (ok : PdOk n f m w k) : PObj Tryd.prog G0 59 [PD false false false n f m w h k r] [] pdR (pkH n f m w h k r) := c_cpP n f m w h k r ok
theorem ev_s11 : ∀ (n : Nat) (f : Nat → ByteArray) (m : Nat) (w : Nat → Nat) (h : Nat → Nat → Int) (r : Nat → Bool) (c : Int) (dn : Bool), ev G0 res26 [] (3000 : Nat) (Or.call [] pdR (pkH n f m w h m r) (Or.call [] (AV.own (0 : Nat)) [((0 : Nat), NR false (netL m))] Or.nil)) [Item.ir ir26] (start [PD false false false n f m w h m r, AI c, AB dn] []) = VC.call (59 : Nat) [AV.ag [AV.p false (PV.sl false (1 : Nat) n fun (i x : Nat) => PT (f i)), AV.p false (PV.sl false (1 : Nat) m (RR w h)), AV.p false (PV.sl false (1 : Nat) m (MK r))]] [] pdR (pkH n f m w h m r) (VC.call (28 : Nat) [AV.p true (PV.v (Value.int IntKind.i64 (↑m : Int)))] [] (AV.own (0 : Nat)) [((0 : Nat), NR false (netL m))] (VC.loop ir26_L1 [Item.bend (0 : Nat), Item.ir ir26_T2] (St.mk [((0 : Nat), AV.ag [AV.p false (PV.sl false (1 : Nat) n fun (i x : Nat) => PT (f i)), AV.p false (PV.sl false (1 : Nat) m (RR w h)), AV.p false (PV.sl false (1 : Nat) m (MK r))]), ((1 : Nat), AV.p true (PV.v (Value.int IntKind.i64 c))), ((2 : Nat), AV.p true (PV.v (Value.bool dn))), ((3 : Nat), AV.adr (3 : Nat) (0 : Nat)), ((6 : Nat), AV.adr (6 : Nat) (0 : Nat)), ((7 : Nat), AV.adr (7 : Nat) (0 : Nat)), ((8 : Nat), AV.own (1019 : Nat)), ((9 : Nat), AV.p true (PV.v (Value.int IntKind.i64 (0 : Int))))] [((3 : Nat), Ob.box [AV.p false (PV.sl false (1 : Nat) n fun (i x : Nat) => PT (f i)), AV.p false (PV.sl false (1 : Nat) m (RR w h)), AV.p false (PV.sl false (1 : Nat) m (MK r))]), ((6 : Nat), Ob.box [AV.p true (PV.v (Value.slice none (0 : Nat) (0 : Nat))), AV.p true (PV.v (Value.slice none (0 : Nat) (0 : Nat))), AV.p true (PV.v (Value.slice none (0 : Nat) (0 : Nat)))]), ((1015 : Nat), Ob.row Mode.u false (1 : Nat) n (TR f) []), ((2015 : Nat), Ob.row Mode.u false (1 : Nat) m (RR w h) []), ((3015 : Nat), Ob.row Mode.u false (1 : Nat) m (MK r) []), ((7 : Nat), Ob.box [AV.own (1015 : Nat), AV.own (2015 : Nat), AV.own (3015 : Nat)]), ((1019 : Nat), Ob.row Mode.u false (2 : Nat) (netL m).length (NB (netL m)) [])]))) := by intros; kernel_rfl
def st_s11 (n : Nat) (f : Nat → ByteArray) (m : Nat) (w : Nat → Nat) (h : Nat → Nat → Int) (r : Nat → Bool) (c : Int) (dn : Bool) (x : Nat × (Nat → Nat)) : St := ⟨[(1, AI c), (2, AB dn), (6, .adr 6 0), (7, .adr 7 0), (8, .own 1019), (9, AI x.1)], [(6, .box [nilT, nilT, nilT]), (1015, .row .u false 1 n (TR f) []), (2015, .row .f false 1 m (fun i j => RR w h (x.2 i) j) []), (3015, .row .u false 1 m (fun i j => MK r (x.2 i) j) []), (7, .box [.own 1015, .own 2015, .own 3015]), (1019, NR false (netL m))]⟩
abbrev PDd (n : Nat) (f : Nat → ByteArray) (m : Nat) (w : Nat → Nat) (h : Nat → Nat → Int) (r : Nat → Bool) (D : Nat → Nat) : AV := .ag [TL false n f, .p false (.sl false 1 m fun i j => RR w h (D i) j), .p false (.sl false 1 m fun i j => MK r (D i) j)]
theorem c_bfD (n : Nat) (f : Nat → ByteArray) (m : Nat) (w : Nat → Nat) (h : Nat → Nat → Int) (r : Nat → Bool) (D : Nat → Nat) (a b : Nat) (c : Int) (dn : Bool) (ok : a < m ∧ b < m ∧ (∀ i, i < m → D i < m) ∧ (∀ i, i < m → 0 ≤ c → c.toNat < w i) ∧ ∀ i, i < m → w i ≤ 1048576) : PRet Tryd.prog G0 60 [PDd n f m w h r D, AI a, AI b, AI c, AB dn] (AB (ltX c dn (itm w h r (D a)) (itm w h r (D b)))) :=
  c_bef n f m (fun i => w (D i)) (fun i j => h (D i) j) (fun i => r (D i)) a b c dn ⟨ok.1, ok.2.1, fun i hi => ok.2.2.2.1 _ (ok.2.2.1 i hi), fun i hi => ok.2.2.2.2 _ (ok.2.2.1 i hi)⟩
theorem evr_s11 : ∀ (n : Nat) (f : Nat → ByteArray) (m : Nat) (w : Nat → Nat) (h : Nat → Nat → Int) (r : Nat → Bool) (c : Int) (dn : Bool) (I : Nat × (Nat → Nat) → St → Prop) (x : Nat × (Nat → Nat)), ev G0 res26 [] (3000 : Nat) ((Or.call [] (AB (ltX c dn (itm w h r (x.2 (nb (netL m) (↑x.1 : Int).toNat ((1 : Nat) + (0 : Nat))))) (itm w h r (x.2 (nb (netL m) (↑x.1 : Int).toNat ((0 : Nat) + (0 : Nat))))))) [] (Or.nil.split Or.nil)).split Or.nil) [Item.ir ir26_L1, Item.lend (I x), Item.bend (0 : Nat), Item.ir ir26_T2] (st_s11 n f m w h r c dn x) = VC.split (decide ((↑x.1 : Int) < (↑(netL m).length : Int))) (VC.need ((0 : Int) ≤ (↑x.1 : Int) ∧ (↑x.1 : Int).toNat < (netL m).length) (VC.need ((↑x.1 : Int).toNat < (netL m).length) (VC.need ((0 : Int) ≤ (↑x.1 : Int) ∧ (↑x.1 : Int).toNat < (netL m).length) (VC.need ((↑x.1 : Int).toNat < (netL m).length) (VC.call (60 : Nat) [AV.ag [AV.p false (PV.sl false (1 : Nat) n (TR f)), AV.p false (PV.sl false (1 : Nat) m fun (i j : Nat) => RR w h (x.2 i) j), AV.p false (PV.sl false (1 : Nat) m fun (i j : Nat) => MK r (x.2 i) j)], AV.p true (PV.v (Value.int IntKind.i64 (↑(nb (netL m) (↑x.1 : Int).toNat ((1 : Nat) + (0 : Nat))) : Int))), AV.p true (PV.v (Value.int IntKind.i64 (↑(nb (netL m) (↑x.1 : Int).toNat ((0 : Nat) + (0 : Nat))) : Int))), AV.p true (PV.v (Value.int IntKind.i64 c)), AV.p true (PV.v (Value.bool dn))] [] (AB (ltX c dn (itm w h r (x.2 (nb (netL m) (↑x.1 : Int).toNat ((1 : Nat) + (0 : Nat))))) (itm w h r (x.2 (nb (netL m) (↑x.1 : Int).toNat ((0 : Nat) + (0 : Nat))))))) [] (VC.split (ltX c dn (itm w h r (x.2 (nb (netL m) (↑x.1 : Int).toNat ((1 : Nat) + (0 : Nat))))) (itm w h r (x.2 (nb (netL m) (↑x.1 : Int).toNat ((0 : Nat) + (0 : Nat)))))) (VC.need ((0 : Int) ≤ (↑(nb (netL m) (↑x.1 : Int).toNat ((0 : Nat) + (0 : Nat))) : Int) ∧ (↑(nb (netL m) (↑x.1 : Int).toNat ((0 : Nat) + (0 : Nat))) : Int).toNat < m) (VC.need ((↑(nb (netL m) (↑x.1 : Int).toNat ((0 : Nat) + (0 : Nat))) : Int).toNat < m) (VC.need ((0 : Int) ≤ (↑(nb (netL m) (↑x.1 : Int).toNat ((1 : Nat) + (0 : Nat))) : Int) ∧ (↑(nb (netL m) (↑x.1 : Int).toNat ((1 : Nat) + (0 : Nat))) : Int).toNat < m) (VC.need ((↑(nb (netL m) (↑x.1 : Int).toNat ((1 : Nat) + (0 : Nat))) : Int).toNat < m) (VC.need ((0 : Int) ≤ (↑(nb (netL m) (↑x.1 : Int).toNat ((0 : Nat) + (0 : Nat))) : Int) ∧ (↑(nb (netL m) (↑x.1 : Int).toNat ((0 : Nat) + (0 : Nat))) : Int).toNat < m) (VC.need ((↑(nb (netL m) (↑x.1 : Int).toNat ((0 : Nat) + (0 : Nat))) : Int).toNat < m) (VC.need ((0 : Int) ≤ (↑(nb (netL m) (↑x.1 : Int).toNat ((1 : Nat) + (0 : Nat))) : Int) ∧ (↑(nb (netL m) (↑x.1 : Int).toNat ((1 : Nat) + (0 : Nat))) : Int).toNat < m) (VC.need ((↑(nb (netL m) (↑x.1 : Int).toNat ((1 : Nat) + (0 : Nat))) : Int).toNat < m) (VC.need ((0 : Int) ≤ (↑(nb (netL m) (↑x.1 : Int).toNat ((0 : Nat) + (0 : Nat))) : Int) ∧ (↑(nb (netL m) (↑x.1 : Int).toNat ((0 : Nat) + (0 : Nat))) : Int).toNat < m) (VC.need ((↑(nb (netL m) (↑x.1 : Int).toNat ((0 : Nat) + (0 : Nat))) : Int).toNat < m) (VC.need ((0 : Int) ≤ (↑(nb (netL m) (↑x.1 : Int).toNat ((1 : Nat) + (0 : Nat))) : Int) ∧ (↑(nb (netL m) (↑x.1 : Int).toNat ((1 : Nat) + (0 : Nat))) : Int).toNat < m) (VC.need ((↑(nb (netL m) (↑x.1 : Int).toNat ((1 : Nat) + (0 : Nat))) : Int).toNat < m) (VC.need ((0 : Int) ≤ (↑(nb (netL m) (↑x.1 : Int).toNat ((0 : Nat) + (0 : Nat))) : Int) ∧ (↑(nb (netL m) (↑x.1 : Int).toNat ((0 : Nat) + (0 : Nat))) : Int).toNat < m) (VC.need ((↑(nb (netL m) (↑x.1 : Int).toNat ((0 : Nat) + (0 : Nat))) : Int).toNat < m) (VC.need ((0 : Int) ≤ (↑(nb (netL m) (↑x.1 : Int).toNat ((1 : Nat) + (0 : Nat))) : Int) ∧ (↑(nb (netL m) (↑x.1 : Int).toNat ((1 : Nat) + (0 : Nat))) : Int).toNat < m) (VC.need ((↑(nb (netL m) (↑x.1 : Int).toNat ((1 : Nat) + (0 : Nat))) : Int).toNat < m) (VC.lend (I x) (St.mk [((1 : Nat), AV.p true (PV.v (Value.int IntKind.i64 c))), ((2 : Nat), AV.p true (PV.v (Value.bool dn))), ((6 : Nat), AV.adr (6 : Nat) (0 : Nat)), ((7 : Nat), AV.adr (7 : Nat) (0 : Nat)), ((8 : Nat), AV.own (1019 : Nat)), ((9 : Nat), AV.p true (PV.v (Value.int IntKind.i64 (IntKind.i64.wrap ((↑x.1 : Int) + (1 : Int)))))), ((23 : Nat), AV.p true (PV.v (Value.bool (decide ((↑x.1 : Int) < (↑(netL m).length : Int)))))), ((10 : Nat), AV.p true (PV.v (Value.int IntKind.i64 (↑(nb (netL m) (↑x.1 : Int).toNat ((0 : Nat) + (0 : Nat))) : Int)))), ((11 : Nat), AV.p true (PV.v (Value.int IntKind.i64 (↑(nb (netL m) (↑x.1 : Int).toNat ((1 : Nat) + (0 : Nat))) : Int)))), ((41 : Nat), AV.p true (PV.v (Value.bool (ltX c dn (itm w h r (x.2 (nb (netL m) (↑x.1 : Int).toNat ((1 : Nat) + (0 : Nat))))) (itm w h r (x.2 (nb (netL m) (↑x.1 : Int).toNat ((0 : Nat) + (0 : Nat))))))))), ((12 : Nat), AV.p true (PV.sl false (1 : Nat) (w (x.2 (↑(nb (netL m) (↑x.1 : Int).toNat ((0 : Nat) + (0 : Nat))) : Int).toNat)) fun (j x_1 : Nat) => PI (h (x.2 (↑(nb (netL m) (↑x.1 : Int).toNat ((0 : Nat) + (0 : Nat))) : Int).toNat) j))), ((13 : Nat), AV.p true (PV.v (Value.bool (r (x.2 (↑(nb (netL m) (↑x.1 : Int).toNat ((0 : Nat) + (0 : Nat))) : Int).toNat)))))] [((6 : Nat), Ob.box [AV.p true (PV.v (Value.slice none (0 : Nat) (0 : Nat))), AV.p true (PV.v (Value.slice none (0 : Nat) (0 : Nat))), AV.p true (PV.v (Value.slice none (0 : Nat) (0 : Nat)))]), ((1015 : Nat), Ob.row Mode.u false (1 : Nat) n (TR f) []), ((2015 : Nat), Ob.row Mode.f false (1 : Nat) m (setG [((↑(nb (netL m) (↑x.1 : Int).toNat ((1 : Nat) + (0 : Nat))) : Int).toNat, (0 : Nat), PV.sl false (1 : Nat) (w (x.2 (↑(nb (netL m) (↑x.1 : Int).toNat ((0 : Nat) + (0 : Nat))) : Int).toNat)) fun (j x_1 : Nat) => PI (h (x.2 (↑(nb (netL m) (↑x.1 : Int).toNat ((0 : Nat) + (0 : Nat))) : Int).toNat) j))] (setG [((↑(nb (netL m) (↑x.1 : Int).toNat ((0 : Nat) + (0 : Nat))) : Int).toNat, (0 : Nat), PV.sl false (1 : Nat) (w (x.2 (↑(nb (netL m) (↑x.1 : Int).toNat ((1 : Nat) + (0 : Nat))) : Int).toNat)) fun (j x_1 : Nat) => PI (h (x.2 (↑(nb (netL m) (↑x.1 : Int).toNat ((1 : Nat) + (0 : Nat))) : Int).toNat) j))] fun (i j : Nat) => RR w h (x.2 i) j)) []), ((3015 : Nat), Ob.row Mode.u false (1 : Nat) m (setG [((↑(nb (netL m) (↑x.1 : Int).toNat ((1 : Nat) + (0 : Nat))) : Int).toNat, (0 : Nat), PV.v (Value.bool (r (x.2 (↑(nb (netL m) (↑x.1 : Int).toNat ((0 : Nat) + (0 : Nat))) : Int).toNat))))] (setG [((↑(nb (netL m) (↑x.1 : Int).toNat ((0 : Nat) + (0 : Nat))) : Int).toNat, (0 : Nat), PV.v (Value.bool (r (x.2 (↑(nb (netL m) (↑x.1 : Int).toNat ((1 : Nat) + (0 : Nat))) : Int).toNat))))] fun (i j : Nat) => MK r (x.2 i) j)) []), ((7 : Nat), Ob.box [AV.own (1015 : Nat), AV.own (2015 : Nat), AV.own (3015 : Nat)]), ((1019 : Nat), Ob.row Mode.u false (2 : Nat) (netL m).length (NB (netL m)) [])])))))))))))))))))) (VC.lend (I x) (St.mk [((1 : Nat), AV.p true (PV.v (Value.int IntKind.i64 c))), ((2 : Nat), AV.p true (PV.v (Value.bool dn))), ((6 : Nat), AV.adr (6 : Nat) (0 : Nat)), ((7 : Nat), AV.adr (7 : Nat) (0 : Nat)), ((8 : Nat), AV.own (1019 : Nat)), ((9 : Nat), AV.p true (PV.v (Value.int IntKind.i64 (IntKind.i64.wrap ((↑x.1 : Int) + (1 : Int)))))), ((23 : Nat), AV.p true (PV.v (Value.bool (decide ((↑x.1 : Int) < (↑(netL m).length : Int)))))), ((10 : Nat), AV.p true (PV.v (Value.int IntKind.i64 (↑(nb (netL m) (↑x.1 : Int).toNat ((0 : Nat) + (0 : Nat))) : Int)))), ((11 : Nat), AV.p true (PV.v (Value.int IntKind.i64 (↑(nb (netL m) (↑x.1 : Int).toNat ((1 : Nat) + (0 : Nat))) : Int)))), ((41 : Nat), AV.p true (PV.v (Value.bool (ltX c dn (itm w h r (x.2 (nb (netL m) (↑x.1 : Int).toNat ((1 : Nat) + (0 : Nat))))) (itm w h r (x.2 (nb (netL m) (↑x.1 : Int).toNat ((0 : Nat) + (0 : Nat)))))))))] [((6 : Nat), Ob.box [AV.p true (PV.v (Value.slice none (0 : Nat) (0 : Nat))), AV.p true (PV.v (Value.slice none (0 : Nat) (0 : Nat))), AV.p true (PV.v (Value.slice none (0 : Nat) (0 : Nat)))]), ((1015 : Nat), Ob.row Mode.u false (1 : Nat) n (TR f) []), ((2015 : Nat), Ob.row Mode.f false (1 : Nat) m (fun (i j : Nat) => RR w h (x.2 i) j) []), ((3015 : Nat), Ob.row Mode.u false (1 : Nat) m (fun (i j : Nat) => MK r (x.2 i) j) []), ((7 : Nat), Ob.box [AV.own (1015 : Nat), AV.own (2015 : Nat), AV.own (3015 : Nat)]), ((1019 : Nat), Ob.row Mode.u false (2 : Nat) (netL m).length (NB (netL m)) [])])))))))) (VC.done (St.mk [((1 : Nat), AV.p true (PV.v (Value.int IntKind.i64 c))), ((2 : Nat), AV.p true (PV.v (Value.bool dn))), ((6 : Nat), AV.adr (6 : Nat) (0 : Nat)), ((7 : Nat), AV.adr (7 : Nat) (0 : Nat)), ((8 : Nat), AV.own (1019 : Nat)), ((9 : Nat), AV.p true (PV.v (Value.int IntKind.i64 (↑x.1 : Int)))), ((23 : Nat), AV.p true (PV.v (Value.bool (decide ((↑x.1 : Int) < (↑(netL m).length : Int))))))] [((6 : Nat), Ob.box [AV.own (1015 : Nat), AV.own (2015 : Nat), AV.own (3015 : Nat)]), ((1015 : Nat), Ob.row Mode.u false (1 : Nat) n (TR f) []), ((2015 : Nat), Ob.row Mode.f false (1 : Nat) m (fun (i j : Nat) => RR w h (x.2 i) j) []), ((3015 : Nat), Ob.row Mode.u false (1 : Nat) m (fun (i j : Nat) => MK r (x.2 i) j) []), ((7 : Nat), Ob.box [AV.own (1015 : Nat), AV.own (2015 : Nat), AV.own (3015 : Nat)]), ((1019 : Nat), Ob.row Mode.u false (2 : Nat) (netL m).length (NB (netL m)) [])])) := by intros; kernel_rfl
theorem sw_le (G : Nat → Nat → PV) {D : Nat → Nat} {a b : Nat} (hab : a ≠ b) (i : Nat) : PV.Le (setG [(b, 0, G (D a) 0)] (setG [(a, 0, G (D b) 0)] fun i j => G (D i) j) i 0) (G (swF D a b i) 0) := by
  by_cases c1 : i = b
  · subst c1
    have c2 : ¬ i = a := fun e => hab e.symm
    simp [setG, cellSet, swF, c2]; exact .refl _
  · by_cases c2 : i = a
    · subst c2; simp [setG, cellSet, swF, c1]; exact .refl _
    · simp [setG, cellSet, swF, c1, c2]; exact .refl _
abbrev pfH (n : Nat) (f : Nat → ByteArray) (T : LI) : List (Nat × Ob) := [(0, .row .u false 1 n (TR f) []), (1, .row .f false 1 T.length (RR (iw T) (ih T)) []), (2, .row .u false 1 T.length (MK (ib T)) [])]
theorem c_s11 (n : Nat) (f : Nat → ByteArray) (m : Nat) (w : Nat → Nat) (h : Nat → Nat → Int) (r : Nat → Bool) (c : Int) (dn : Bool) (ok : PdOk n f m w m ∧ m ≤ 256 ∧ ∀ i, i < m → 0 ≤ c → c.toNat < w i) : PObj Tryd.prog G0 26 [PD false false false n f m w h m r, AI c, AB dn] [] pdR (pfH n f (srtP c dn (itL m w h r))) := by
  obtain ⟨ok, hm, hc⟩ := ok
  have hw := ok.ta.hw
  have hO := ltX_swo c dn
  have hT := netL_len hm
  refine PObj.by chk26 rfl (ev_s11 n f m w h r c dn) ?_
  simp only [VC.holds_split, VC.holds_need, VC.holds_doneP, VC.holds_done, VC.holds_either, VC.holds_call, VC.holds_callE, VC.holds_lend, VC.holds_stop, VC.holds_fail, decide_eq_true_eq, decide_eq_false_iff_not]
  refine ⟨c_cpS _ _ _ _ _ _ _ ok, c_nsN0 _ hm, ?_⟩
  let K : Nat → It := itm w h r
  refine loop_by (st_s11 n f m w h r c dn) (fun x => x.1 ≤ (netL m).length ∧ x.2 = runD (ltX c dn) K (fun i => i) ((netL m).take x.1)) (fun x => (netL m).length - x.1) (0, fun i => i) [(2015, .f)] [] [] ⟨Nat.zero_le _, rfl⟩ ?_ (evr_s11 n f m w h r c dn) fun x hx => ?_
  · simp [st_s11, hbs, St.lowers, St.lower, stLe, leEnv, leObs, obLe, injB, pinC, AV.leC, AV.leCs, PV.leC, PV.Le_v, St.get, St.obj, look, rho, isNew, keptC, renH, Mode.ok, Mode.isZ, PV.isVal, PV.isNilSl, List.all_nil, List.all_cons, List.any_nil, List.any_cons, List.map_nil, List.map_cons, PV.Le_self, AV.leCs, Mode.low, St.setOb, ins]
  · obtain ⟨k, D⟩ := x
    obtain ⟨hk, hD⟩ := hx
    simp only [] at hk hD
    have hP : SegP 0 m (fun i => i) D := by
      rw [hD]
      exact runD_perm _ _ (fun x hx => netL_mem (List.mem_of_mem_take hx)) _
    have hDm : ∀ i, i < m → D i < m := fun i hi => hP.all (p := fun x => x < m) (fun j h1 h2 => h2) i (Nat.zero_le _) hi
    have e1 : IntKind.i64.wrap ((k : Int) + 1) = ((k + 1 : Nat) : Int) := wrap_in (by omega) (by omega)
    simp only [VC.holds_split, VC.holds_need, VC.holds_doneP, VC.holds_done, VC.holds_either, VC.holds_call, VC.holds_callE, VC.holds_lend, VC.holds_stop, VC.holds_fail, decide_eq_true_eq, decide_eq_false_iff_not, Int.toNat_natCast, Nat.add_zero]
    refine ⟨fun h1 => ?_, fun h1 => ?_⟩
    · have hkl : k < (netL m).length := by omega
      obtain ⟨a, ha⟩ : ∃ a, nb (netL m) k 0 = a := ⟨_, rfl⟩
      obtain ⟨b, hb⟩ : ∃ b, nb (netL m) k 1 = b := ⟨_, rfl⟩
      have hab : (netL m)[k] = (a, b) := by
        refine Prod.ext ?_ ?_
        · rw [← ha]; simp [nb, List.getD_eq_getElem?_getD, hkl]
        · rw [← hb]; simp [nb, List.getD_eq_getElem?_getD, hkl]
      have hin := netL_mem (hab ▸ List.getElem_mem hkl)
      simp only [] at hin
      have next : ∀ E, stD (ltX c dn) K D (a, b) = E → E = runD (ltX c dn) K (fun i => i) ((netL m).take (k + 1)) := fun E hE => by
        rw [List.take_succ_eq_append_getElem hkl, hab, ← hE, hD]
        simp [runD, List.foldl_append]
      simp only [Nat.zero_add, ha, hb]
      refine ⟨by omega, by omega, by omega, by omega, c_bfD _ _ _ _ _ _ _ _ _ _ _ ⟨by omega, by omega, hDm, hc, hw⟩, fun h2 => ⟨by omega, by omega, by omega, by omega, by omega, by omega, by omega, by omega, by omega, by omega, by omega, by omega, by omega, by omega, by omega, by omega, Again.mk (k + 1, swF D a b) [] [] [] ⟨by simp only []; omega, next _ ?_⟩ (by simp only []; omega) ?_⟩, fun h2 => Again.mk (k + 1, D) [] [] [] ⟨by simp only []; omega, next _ ?_⟩ (by simp only []; omega) ?_⟩
      · simp only [stD, K]; rw [if_pos h2]
      · simp [st_s11, hbs, St.lowers, St.lower, stLe, leEnv, leObs, obLe, injB, pinC, AV.leC, AV.leCs, PV.leC, PV.Le_v, St.get, St.obj, look, rho, isNew, keptC, renH, Mode.ok, Mode.isZ, PV.isVal, PV.isNilSl, List.all_nil, List.all_cons, List.any_nil, List.any_cons, List.map_nil, List.map_cons, PV.Le_self, AV.leCs, e1]
        exact ⟨fun i hi => sw_le (RR w h) (by omega) i, fun i hi => sw_le (MK r) (by omega) i⟩
      · simp only [stD, K]; rw [if_neg (by rw [h2]; simp)]
      · simp [st_s11, hbs, St.lowers, St.lower, stLe, leEnv, leObs, obLe, injB, pinC, AV.leC, AV.leCs, PV.leC, PV.Le_v, St.get, St.obj, look, rho, isNew, keptC, renH, Mode.ok, Mode.isZ, PV.isVal, PV.isNilSl, List.all_nil, List.all_cons, List.any_nil, List.any_cons, List.map_nil, List.map_cons, PV.Le_self, AV.leCs, e1]
    · have hkl : k = (netL m).length := by omega
      subst hkl
      rw [List.take_length] at hD
      have hS : SrtS (ltX c dn) K 0 m D := by rw [hD]; exact runD_sorted _ _ hO m _
      have hres := srtP_of (w := w) (h := h) (r := r) (fun _ _ => rfl) hP hS
      have hl : (srtP c dn (itL m w h r)).length = m := by rw [srtP_len, itL_len]
      have hget : ∀ i, i < m → (srtP c dn (itL m w h r)).getD i (false, []) = itm w h r (D i) := fun i hi => by
        rw [← hres]; simp [List.getD_eq_getElem?_getD, hi]
      refine ResOk.mk [] [(0, 1015), (1, 2015), (2, 3015)] [] _ _ ?_ ⟨rfl, rfl⟩
      simp [doneC, resOf, resAV, tup, pinR, PV.Le_self, hbs, St.lowers, St.lower, stLe, leEnv, leObs, obLe, injB, pinC, AV.leC, AV.leCs, PV.leC, PV.Le_v, St.get, St.obj, look, rho, isNew, keptC, renH, Mode.ok, Mode.isZ, PV.isVal, PV.isNilSl, List.all_nil, List.all_cons, List.any_nil, List.any_cons, List.map_nil, List.map_cons, res26, AV.leCs, hl]
      exact ⟨fun i hi => RR_it (hget i hi), fun i hi => by simp only [ib, hget i hi, itm]⟩
/-! ### the model whole -/
theorem c_s11K (n : Nat) (f : Nat → ByteArray) (m : Nat) (w : Nat → Nat) (h : Nat → Nat → Int) (k : Nat) (r : Nat → Bool) (c : Int) (dn : Bool) (ok : (PdOk n f m w m ∧ m ≤ 256 ∧ ∀ i, i < m → 0 ≤ c → c.toNat < w i) ∧ k = m) : PObj Tryd.prog G0 26 [PD false false false n f m w h k r, AI c, AB dn] [] pdR (pfH n f (srtP c dn (itL m w h r))) := by
  obtain ⟨ok, rfl⟩ := ok
  exact c_s11 n f k w h r c dn ok
theorem c_svK (n : Nat) (f : Nat → ByteArray) (m : Nat) (w : Nat → Nat) (h : Nat → Nat → Int) (k : Nat) (r : Nat → Bool) (ok : PdOk n f m w k) : PRet Tryd.prog G0 24 [PD false false false n f m w h k r] (AB (padB n f m w h k r)) := c_spPV n f m w h k r ok
theorem c_ptS (r : Nat) (nn : Bool) (L : LP) (h : r ≤ 2 ∧ L.length ≤ 16777216) : PObj Tryd.prog G0 27 [AI r, NL nn L] [] (.own 0) [(0, CR false (trL r L))] := c_spPT r nn L h.1 h.2
theorem ev_spSP : ∀ (n : Nat) (f : Nat → ByteArray) (m : Nat) (w : Nat → Nat) (h : Nat → Nat → Int) (k : Nat) (r : Nat → Bool) (s : ByteArray) (dn : Bool), ev G0 res6 [] (3000 : Nat) (Or.call [] pdR (pkH n f m w h k r) (Or.call [] (AB (padB n f m w h k r)) [] (Or.nil.lit.lit.lit.lit.lit.split ((Or.call [] (AI (colT f s n)) [] (Or.nil.split (Or.call [] (AI (colT f s n)) [] (Or.call [] pdR (pfH n f (srtP (colT f s n) dn (itL m w h r))) (Or.call [] (AV.own (0 : Nat)) [((0 : Nat), NR false (netL m))] (Or.call [] (AV.own (0 : Nat)) [((0 : Nat), CR false (trL (nat_lit 2) (netL m)))] Or.nil))))).lit.lit.lit.lit).lit.lit.lit.split (Or.call [] (AI (colT f s n)) [] (Or.call [] pdR (pfH n f (srtP (colT f s n) dn (itL m w h r))) (Or.call [] (AV.own (0 : Nat)) [((0 : Nat), NR false (netL m))] (Or.call [] (AV.own (0 : Nat)) [((0 : Nat), CR false (trL (nat_lit 2) (netL m)))] Or.nil)))).lit.lit.lit.lit.lit.lit.lit.lit).lit.lit))) [Item.ir ir6] (start [PD false false false n f m w h k r, AT s, AB dn] []) = VC.call (23 : Nat) [AV.ag [AV.p false (PV.sl false (1 : Nat) n fun (i x : Nat) => PT (f i)), AV.p false (PV.sl false (1 : Nat) m (RR w h)), AV.p false (PV.sl false (1 : Nat) k (MK r))]] [] pdR (pkH n f m w h k r) (VC.call (24 : Nat) [AV.ag [AV.p false (PV.sl false (1 : Nat) n (TR f)), AV.p false (PV.sl false (1 : Nat) m (RR w h)), AV.p false (PV.sl false (1 : Nat) k (MK r))]] [] (AB (padB n f m w h k r)) [] (VC.split (!padB n f m w h k r) (VC.done (St.mk [((0 : Nat), AV.ag [AV.p false (PV.sl false (1 : Nat) n fun (i x : Nat) => PT (f i)), AV.p false (PV.sl false (1 : Nat) m (RR w h)), AV.p false (PV.sl false (1 : Nat) k (MK r))]), ((1 : Nat), AV.p true (PV.v (Value.string s))), ((2 : Nat), AV.p true (PV.v (Value.bool dn))), ((3 : Nat), AV.adr (3 : Nat) (0 : Nat)), ((6 : Nat), AV.adr (6 : Nat) (0 : Nat)), ((7 : Nat), AV.own (26 : Nat)), ((8 : Nat), AV.p true (PV.v (Value.bool false))), ((24 : Nat), AV.p true (PV.v (Value.bool true)))] [((3 : Nat), Ob.box [AV.own (1010 : Nat), AV.own (2010 : Nat), AV.own (3010 : Nat)]), ((6 : Nat), Ob.box [AV.p true (PV.v (Value.slice none (0 : Nat) (0 : Nat))), AV.p true (PV.v (Value.slice none (0 : Nat) (0 : Nat))), AV.p true (PV.v (Value.slice none (0 : Nat) (0 : Nat)))]), ((1010 : Nat), Ob.row Mode.u false (1 : Nat) n (TR f) []), ((2010 : Nat), Ob.row Mode.u false (1 : Nat) m (RR w h) []), ((3010 : Nat), Ob.row Mode.u false (1 : Nat) k (MK r) []), ((26 : Nat), Ob.row Mode.u true (3 : Nat) (0 : Nat) (setG [] fun (x j : Nat) => PV.v ([Value.int IntKind.i64 (0 : Int), Value.int IntKind.i64 (0 : Int), Value.bool false].getD j undef)) [])])) (VC.split (!s.toList == (ByteArray.mk #[]).toList) (VC.call (25 : Nat) [AV.p false (PV.sl false (1 : Nat) n (TR f)), AV.p true (PV.v (Value.string s))] [] (AI (colT f s n)) [] (VC.split (decide (colT f s n < (0 : Int))) (VC.done (St.mk [((0 : Nat), AV.ag [AV.p false (PV.sl false (1 : Nat) n fun (i x : Nat) => PT (f i)), AV.p false (PV.sl false (1 : Nat) m (RR w h)), AV.p false (PV.sl false (1 : Nat) k (MK r))]), ((1 : Nat), AV.p true (PV.v (Value.string s))), ((2 : Nat), AV.p true (PV.v (Value.bool dn))), ((3 : Nat), AV.adr (3 : Nat) (0 : Nat)), ((6 : Nat), AV.adr (6 : Nat) (0 : Nat)), ((7 : Nat), AV.own (26 : Nat)), ((8 : Nat), AV.p true (PV.v (Value.bool false))), ((24 : Nat), AV.p true (PV.v (Value.bool (decide (colT f s n < (0 : Int))))))] [((3 : Nat), Ob.box [AV.own (1010 : Nat), AV.own (2010 : Nat), AV.own (3010 : Nat)]), ((6 : Nat), Ob.box [AV.p true (PV.v (Value.slice none (0 : Nat) (0 : Nat))), AV.p true (PV.v (Value.slice none (0 : Nat) (0 : Nat))), AV.p true (PV.v (Value.slice none (0 : Nat) (0 : Nat)))]), ((1010 : Nat), Ob.row Mode.u false (1 : Nat) n (TR f) []), ((2010 : Nat), Ob.row Mode.u false (1 : Nat) m (RR w h) []), ((3010 : Nat), Ob.row Mode.u false (1 : Nat) k (MK r) []), ((26 : Nat), Ob.row Mode.u true (3 : Nat) (0 : Nat) (setG [] fun (x j : Nat) => PV.v ([Value.int IntKind.i64 (0 : Int), Value.int IntKind.i64 (0 : Int), Value.bool false].getD j undef)) [])])) (VC.call (25 : Nat) [AV.p false (PV.sl false (1 : Nat) n (TR f)), AV.p true (PV.v (Value.string s))] [] (AI (colT f s n)) [] (VC.call (26 : Nat) [AV.ag [AV.p false (PV.sl false (1 : Nat) n (TR f)), AV.p false (PV.sl false (1 : Nat) m (RR w h)), AV.p false (PV.sl false (1 : Nat) k (MK r))], AV.p true (PV.v (Value.int IntKind.i64 (colT f s n))), AV.p true (PV.v (Value.bool dn))] [] pdR (pfH n f (srtP (colT f s n) dn (itL m w h r))) (VC.call (28 : Nat) [AV.p true (PV.v (Value.int IntKind.i64 (↑m : Int)))] [] (AV.own (0 : Nat)) [((0 : Nat), NR false (netL m))] (VC.call (27 : Nat) [AV.p true (PV.v (Value.int IntKind.i64 (2 : Int))), AV.p false (PV.sl false (2 : Nat) (netL m).length (NB (netL m)))] [] (AV.own (0 : Nat)) [((0 : Nat), CR false (trL (nat_lit 2) (netL m)))] (VC.done (St.mk [((0 : Nat), AV.ag [AV.p false (PV.sl false (1 : Nat) n fun (i x : Nat) => PT (f i)), AV.p false (PV.sl false (1 : Nat) m (RR w h)), AV.p false (PV.sl false (1 : Nat) k (MK r))]), ((1 : Nat), AV.p true (PV.v (Value.string s))), ((2 : Nat), AV.p true (PV.v (Value.bool dn))), ((3 : Nat), AV.adr (3 : Nat) (0 : Nat)), ((6 : Nat), AV.adr (6 : Nat) (0 : Nat)), ((7 : Nat), AV.own (1038 : Nat)), ((8 : Nat), AV.p true (PV.v (Value.bool true))), ((24 : Nat), AV.p true (PV.v (Value.bool (decide (colT f s n < (0 : Int))))))] [((3 : Nat), Ob.box [AV.own (1010 : Nat), AV.own (2010 : Nat), AV.own (3010 : Nat)]), ((6 : Nat), Ob.box [AV.own (1033 : Nat), AV.own (2033 : Nat), AV.own (3033 : Nat)]), ((1010 : Nat), Ob.row Mode.u false (1 : Nat) n (TR f) []), ((2010 : Nat), Ob.row Mode.u false (1 : Nat) m (RR w h) []), ((3010 : Nat), Ob.row Mode.u false (1 : Nat) k (MK r) []), ((1033 : Nat), Ob.row Mode.u false (1 : Nat) n (TR f) []), ((2033 : Nat), Ob.row Mode.f false (1 : Nat) (List.length (srtP (colT f s n) dn (itL m w h r))) (RR (iw (srtP (colT f s n) dn (itL m w h r))) (ih (srtP (colT f s n) dn (itL m w h r)))) []), ((3033 : Nat), Ob.row Mode.u false (1 : Nat) (List.length (srtP (colT f s n) dn (itL m w h r))) (MK (ib (srtP (colT f s n) dn (itL m w h r)))) []), ((1038 : Nat), Ob.row Mode.u false (3 : Nat) (List.length (trL (nat_lit 2) (netL m))) (CB (trL (nat_lit 2) (netL m))) [])])))))))) (VC.call (25 : Nat) [AV.p false (PV.sl false (1 : Nat) n (TR f)), AV.p true (PV.v (Value.string s))] [] (AI (colT f s n)) [] (VC.call (26 : Nat) [AV.ag [AV.p false (PV.sl false (1 : Nat) n (TR f)), AV.p false (PV.sl false (1 : Nat) m (RR w h)), AV.p false (PV.sl false (1 : Nat) k (MK r))], AV.p true (PV.v (Value.int IntKind.i64 (colT f s n))), AV.p true (PV.v (Value.bool dn))] [] pdR (pfH n f (srtP (colT f s n) dn (itL m w h r))) (VC.call (28 : Nat) [AV.p true (PV.v (Value.int IntKind.i64 (↑m : Int)))] [] (AV.own (0 : Nat)) [((0 : Nat), NR false (netL m))] (VC.call (27 : Nat) [AV.p true (PV.v (Value.int IntKind.i64 (2 : Int))), AV.p false (PV.sl false (2 : Nat) (netL m).length (NB (netL m)))] [] (AV.own (0 : Nat)) [((0 : Nat), CR false (trL (nat_lit 2) (netL m)))] (VC.done (St.mk [((0 : Nat), AV.ag [AV.p false (PV.sl false (1 : Nat) n fun (i x : Nat) => PT (f i)), AV.p false (PV.sl false (1 : Nat) m (RR w h)), AV.p false (PV.sl false (1 : Nat) k (MK r))]), ((1 : Nat), AV.p true (PV.v (Value.string s))), ((2 : Nat), AV.p true (PV.v (Value.bool dn))), ((3 : Nat), AV.adr (3 : Nat) (0 : Nat)), ((6 : Nat), AV.adr (6 : Nat) (0 : Nat)), ((7 : Nat), AV.own (1038 : Nat)), ((8 : Nat), AV.p true (PV.v (Value.bool true))), ((24 : Nat), AV.p true (PV.v (Value.bool false)))] [((3 : Nat), Ob.box [AV.own (1010 : Nat), AV.own (2010 : Nat), AV.own (3010 : Nat)]), ((6 : Nat), Ob.box [AV.own (1033 : Nat), AV.own (2033 : Nat), AV.own (3033 : Nat)]), ((1010 : Nat), Ob.row Mode.u false (1 : Nat) n (TR f) []), ((2010 : Nat), Ob.row Mode.u false (1 : Nat) m (RR w h) []), ((3010 : Nat), Ob.row Mode.u false (1 : Nat) k (MK r) []), ((1033 : Nat), Ob.row Mode.u false (1 : Nat) n (TR f) []), ((2033 : Nat), Ob.row Mode.f false (1 : Nat) (List.length (srtP (colT f s n) dn (itL m w h r))) (RR (iw (srtP (colT f s n) dn (itL m w h r))) (ih (srtP (colT f s n) dn (itL m w h r)))) []), ((3033 : Nat), Ob.row Mode.u false (1 : Nat) (List.length (srtP (colT f s n) dn (itL m w h r))) (MK (ib (srtP (colT f s n) dn (itL m w h r)))) []), ((1038 : Nat), Ob.row Mode.u false (3 : Nat) (List.length (trL (nat_lit 2) (netL m))) (CB (trL (nat_lit 2) (netL m))) [])]))))))))) := by intros; kernel_rfl
abbrev soF (n : Nat) (f : Nat → ByteArray) (T : LI) (L : LA) : List (Nat × Ob) := [(0, .row .u false 1 n (TR f) []), (1, .row .f false 1 T.length (RR (iw T) (ih T)) []), (2, .row .u false 1 T.length (MK (ib T)) []), (3, CR false L)]
abbrev spF (n : Nat) (f : Nat → ByteArray) (m : Nat) (w : Nat → Nat) (h : Nat → Nat → Int) (k : Nat) (r : Nat → Bool) (s : ByteArray) (dn : Bool) : List (Nat × Ob) := soF (spN n f m w h k r s) f (spT n f m w h k r s dn) (spL n f m w h k r s)
theorem c_spSP (n : Nat) (f : Nat → ByteArray) (m : Nat) (w : Nat → Nat) (h : Nat → Nat → Int) (k : Nat) (r : Nat → Bool) (s : ByteArray) (dn : Bool) (ok : PdOk n f m w k) : PObj Tryd.prog G0 6 [PD false false false n f m w h k r, AT s, AB dn] [] (spR (spB n f m w h k r s)) (spF n f m w h k r s dn) := by
  refine PObj.by chk6 rfl (ev_spSP n f m w h k r s dn) ?_
  have hn := ok.ta.hn
  have hlt := colT_lt f s n
  have hsv : ∀ b : Bool, spB n f m w h k r s = b → (spR (spB n f m w h k r s) = spR b ∧ spF n f m w h k r s dn = soF (if b then n else 0) f (if b then srtP (colT f s n) dn (itL m w h r) else []) (if b then trL 2 (netL m) else [])) := fun b e => by
    subst e; exact ⟨rfl, rfl⟩
  have s11 : padB n f m w h k r = true → (PdOk n f m w m ∧ m ≤ 256 ∧ ∀ i, i < m → 0 ≤ colT f s n → (colT f s n).toNat < w i) ∧ k = m := fun hp =>
    have hh := pad_parts hp
    ⟨⟨⟨ok.ta, ok.ta.hm⟩, hh.2.1, fun i hi h0 => by rw [(hh.2.2.2.1 i hi).1]; omega⟩, hh.2.2.1⟩
  simp only [VC.holds_split, VC.holds_need, VC.holds_doneP, VC.holds_done, VC.holds_either, VC.holds_call, VC.holds_callE, VC.holds_lend, VC.holds_stop, VC.holds_fail, decide_eq_true_eq, decide_eq_false_iff_not]
  refine ⟨c_ownP _ _ _ _ _ _ _ ok, c_svK _ _ _ _ _ _ _ ok, fun h1 => ?_, fun h1 => ?_⟩
  · have e : spB n f m w h k r s = false := by
      have : padB n f m w h k r = false := by simpa using h1
      simp [spB, this]
    rw [(hsv _ e).1, (hsv _ e).2]
    refine ResOk.mk [] [(3, 26)] [0, 1, 2] _ _ ?_ ⟨rfl, rfl⟩
    simp [doneC, resOf, resAV, tup, pinR, PV.Le_self, hbs, St.lowers, St.lower, stLe, leEnv, leObs, obLe, injB, pinC, AV.leC, AV.leCs, PV.leC, PV.Le_v, St.get, St.obj, look, rho, isNew, keptC, renH, Mode.ok, Mode.isZ, PV.isVal, PV.isNilSl, List.all_nil, List.all_cons, List.any_nil, List.any_cons, List.map_nil, List.map_cons, res6, AV.leCs]
  · have hp : padB n f m w h k r = true := by simpa using h1
    have hm := (pad_parts hp).2.1
    refine ⟨fun h2 => ⟨c_l1C _ _ _ _ hn, fun h3 => ?_, fun h3 => ⟨c_l1C _ _ _ _ hn, c_s11K _ _ _ _ _ _ _ _ _ (s11 hp), c_nsN0 _ hm, c_ptS _ _ _ ⟨Nat.le_refl _, netL_len hm⟩, ?_⟩⟩, fun h2 => ⟨c_l1C _ _ _ _ hn, c_s11K _ _ _ _ _ _ _ _ _ (s11 hp), c_nsN0 _ hm, c_ptS _ _ _ ⟨Nat.le_refl _, netL_len hm⟩, ?_⟩⟩
    · have e : spB n f m w h k r s = false := by
        have h4 : hasT f s n = false := by rw [← colT_has]; simpa using h3
        have h5 : emB s = false := by simpa [emB] using h2
        simp [spB, h4, h5]
      rw [(hsv _ e).1, (hsv _ e).2]
      refine ResOk.mk [] [(3, 26)] [0, 1, 2] _ _ ?_ ⟨rfl, rfl⟩
      simp [doneC, resOf, resAV, tup, pinR, PV.Le_self, hbs, St.lowers, St.lower, stLe, leEnv, leObs, obLe, injB, pinC, AV.leC, AV.leCs, PV.leC, PV.Le_v, St.get, St.obj, look, rho, isNew, keptC, renH, Mode.ok, Mode.isZ, PV.isVal, PV.isNilSl, List.all_nil, List.all_cons, List.any_nil, List.any_cons, List.map_nil, List.map_cons, res6, AV.leCs]
    · have e : spB n f m w h k r s = true := by
        have h4 : hasT f s n = true := by rw [← colT_has]; simpa using h3
        simp [spB, h4, hp]
      rw [(hsv _ e).1, (hsv _ e).2]
      refine ResOk.mk [] [(0, 1033), (1, 2033), (2, 3033), (3, 1038)] [] _ _ ?_ ⟨rfl, rfl⟩
      simp [doneC, resOf, resAV, tup, pinR, PV.Le_self, hbs, St.lowers, St.lower, stLe, leEnv, leObs, obLe, injB, pinC, AV.leC, AV.leCs, PV.leC, PV.Le_v, St.get, St.obj, look, rho, isNew, keptC, renH, Mode.ok, Mode.isZ, PV.isVal, PV.isNilSl, List.all_nil, List.all_cons, List.any_nil, List.any_cons, List.map_nil, List.map_cons, res6, AV.leCs]
    · have e : spB n f m w h k r s = true := by
        have h5 : emB s = true := by simpa [emB] using h2
        simp [spB, h5, hp]
      rw [(hsv _ e).1, (hsv _ e).2]
      refine ResOk.mk [] [(0, 1033), (1, 2033), (2, 3033), (3, 1038)] [] _ _ ?_ ⟨rfl, rfl⟩
      simp [doneC, resOf, resAV, tup, pinR, PV.Le_self, hbs, St.lowers, St.lower, stLe, leEnv, leObs, obLe, injB, pinC, AV.leC, AV.leCs, PV.leC, PV.Le_v, St.get, St.obj, look, rho, isNew, keptC, renH, Mode.ok, Mode.isZ, PV.isVal, PV.isNilSl, List.all_nil, List.all_cons, List.any_nil, List.any_cons, List.map_nil, List.map_cons, res6, AV.leCs]
end Go.Gw
