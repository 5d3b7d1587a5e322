/- Memories: a block is used; with no condition. -/
import Derived.Test.YtopnhnnfobbocaaDoorMemL
import Derived.KernelRfl
namespace Go.Gw
open Go Go.Proofs
set_option linter.unusedSimpArgs false
set_option linter.unusedVariables false
set_option maxRecDepth 100000
def ir68_L1 : Ir :=
  (.seq
  (.reg [] [o 55 (.bin .lss (tt 54) (tt 53))])
  (.seq
  (.cond (tt 55)
   .skip
   (.exit 0))
  (.seq
  (.block 1
   (.seq
   (.reg [56, 57] [o 56 (.idx 1 (tt 52) (tt 54)),
     o 57 (.load false 1 (tt 56)),
     o 18 (.mov (tt 57))])
   (.seq
   (.dreg [58, 59, 60, 61, 62, 63, 64, 65, 66] [0, 1, 0, 4, 0, 28, 60, 127, 255, 511] [(1, 1059), (3, 1061), (6, 1064), (7, 65)] [o 58 (.fadr 1 (tt 14)),
     o 59 (.load false 1 (tt 58)),
     o 60 (.fadr 0 (tt 14)),
     o 61 (.load false 1 (tt 60)),
     o 62 (.mov (tt 18)),
     o 63 (.idx 1 (tt 61) (tt 62)),
     o 64 (.load false 1 (tt 63)),
     o 65 (.app 3 24 true (tt 59) (tt 64)),
     o 66 (.fadr 1 (tt 14)),
     on (.store 1 (tt 66) (tt 65))])
   (.reg [67, 68, 69, 70] [o 67 (.fadr 0 (tt 14)),
     o 68 (.load false 1 (tt 67)),
     o 69 (.mov (tt 18)),
     o 70 (.idx 1 (tt 68) (tt 69)),
     on (.store 1 (tt 70) (.const (.slice none 0 0)))]))))
  (.reg [71] [o 71 (.bin .add (tt 54) (ci 1)),
    o 54 (.mov (tt 71))]))))
def ir68_L2 : Ir :=
  (.seq
  (.reg [] [o 76 (.bin .lss (tt 75) (tt 74))])
  (.seq
  (.cond (tt 76)
   .skip
   (.exit 2))
  (.seq
  (.block 3
   (.seq
   (.reg [77] [o 77 (.mov (tt 75)),
     o 19 (.mov (tt 77))])
   (.seq
   (.reg [78, 79, 80, 81, 82, 83, 84] [o 78 (.fadr 1 (tt 14)),
     o 79 (.load false 1 (tt 78)),
     o 80 (.mov (tt 19)),
     o 81 (.idx 3 (tt 79) (tt 80)),
     o 82 (.fadr 0 (tt 81)),
     o 83 (.load false 1 (tt 82)),
     o 84 (.mov (tt 1)),
     o 85 (.bin .eql (tt 83) (tt 84))])
   (.cond (tt 85)
    (.seq
    (.reg [86, 87, 88, 89, 90, 91] [o 86 (.fadr 1 (tt 14)),
      o 87 (.load false 1 (tt 86)),
      o 88 (.mov (tt 19)),
      o 89 (.mov (tt 4)),
      o 90 (.idx 3 (tt 87) (tt 88)),
      o 91 (.fadr 2 (tt 90)),
      on (.store 1 (tt 91) (tt 89))])
    (.seq
    (.reg [] [o 92 (.mov (tt 2))])
    (.cond (tt 92)
     (.reg [93, 94, 95, 96, 97, 98] [o 93 (.fadr 1 (tt 14)),
       o 94 (.load false 1 (tt 93)),
       o 95 (.mov (tt 19)),
       o 96 (.mov (tt 3)),
       o 97 (.idx 3 (tt 94) (tt 95)),
       o 98 (.fadr 1 (tt 97)),
       on (.store 1 (tt 98) (tt 96))])
     .skip)))
    .skip))))
  (.reg [99] [o 99 (.bin .add (tt 75) (ci 1)),
    o 75 (.mov (tt 99))]))))
def ir68_C1 : Ir :=
  (.dreg [132, 133, 134, 135, 136, 137, 138, 139, 140, 141, 142, 143] [0, 1, 0, 0, 8, 0, 56, 120, 0, 256, 1016, 2047, 4095] [(1, 1133), (4, 1136), (7, 1139), (8, 1140), (8, 2140), (8, 3140), (9, 141), (10, 142)] [o 132 (.fadr 0 (tt 14)),
      o 133 (.load false 1 (tt 132)),
      o 134 (.mov (tt 21)),
      o 135 (.fadr 0 (tt 14)),
      o 136 (.load false 1 (tt 135)),
      o 137 (.mov (tt 21)),
      o 138 (.idx 1 (tt 136) (tt 137)),
      o 139 (.load false 1 (tt 138)),
      o 140 (.load true 3 (tt 24)),
      o 141 (.mkSl 3 1 [(.int .i64 0), (.int .i64 0), (.int .i64 0)] [(0, (tt 140))]),
      o 142 (.app 3 24 true (tt 139) (tt 141)),
      o 143 (.idx 1 (tt 133) (tt 134)),
      on (.store 1 (tt 143) (tt 142))])
def ir68_D1 : Ir :=
  (.reg [148] [o 148 (.bin .add (tt 114) (ci 1)),
    o 114 (.mov (tt 148))])
def ir68_L3 : Ir :=
  (.seq
  (.reg [] [o 115 (.bin .lss (tt 114) (tt 113))])
  (.seq
  (.cond (tt 115)
   .skip
   (.exit 6))
  (.seq
  (.block 7
   (.seq
   (.reg [116, 117] [o 116 (.idx 3 (tt 112) (tt 114)),
     o 117 (.load true 3 (tt 116)),
     o 24 (.alloc [(.int .i64 0), (.int .i64 0), (.int .i64 0)]),
     on (.store 3 (tt 24) (tt 117))])
   (.seq
   (.reg [118, 119, 120, 121, 122, 123, 124, 125, 126, 127, 128, 129, 130] [o 118 (.fadr 0 (tt 14)),
     o 119 (.load false 1 (tt 118)),
     o 120 (.mov (tt 21)),
     o 121 (.idx 1 (tt 119) (tt 120)),
     o 122 (.load false 1 (tt 121)),
     o 123 (.len (tt 122)),
     o 124 (.bin .lss (tt 123) (ci 2)),
     o 125 (.mov (tt 124)),
     og 126 125 true (.fadr 2 (tt 24)),
     og 127 125 true (.load false 1 (tt 126)),
     og 128 125 true (.call 62 [(tt 127)]),
     og 129 125 true (.mov (tt 21)),
     og 130 125 true (.call 136 [(tt 128), (tt 129)]),
     o 131 (.pick (tt 125) (tt 130) (cb false))])
   (.cond (tt 131)
    ir68_C1
    (.reg [144, 145, 146, 147] [o 144 (.mov (tt 22)),
      o 145 (.load true 3 (tt 24)),
      o 146 (.mkSl 3 1 [(.int .i64 0), (.int .i64 0), (.int .i64 0)] [(0, (tt 145))]),
      o 147 (.app 3 24 true (tt 144) (tt 146)),
      o 22 (.mov (tt 147))])))))
  ir68_D1)))
def ir68_T4 : Ir :=
  (.reg [149, 150] [o 149 (.mov (tt 22)),
    o 150 (.fadr 1 (tt 14)),
    on (.store 1 (tt 150) (tt 149))])
def ir68_T5 : Ir :=
  (.reg [105, 106] [o 105 (.mov (tt 20)),
    o 106 (.bin .sub (tt 105) (ci 1)),
    o 20 (.mov (tt 106))])
def ir68_L6 : Ir :=
  (.seq
  (.seq
  (.reg [103] [o 103 (.mov (tt 20)),
    o 104 (.bin .geq (tt 103) (ci 0))])
  (.cond (tt 104)
   .skip
   (.exit 4)))
  (.seq
  (.block 5
   (.seq
   (.reg [107, 108, 109, 110] [o 107 (.mov (tt 16)),
     o 108 (.mov (tt 20)),
     o 109 (.idx 1 (tt 107) (tt 108)),
     o 110 (.load false 1 (tt 109)),
     o 21 (.mov (tt 110))])
   (.seq
   (.reg [] [o 22 (.mov (.const (.slice none 0 0)))])
   (.seq
   (.seq
   (.reg [111] [o 111 (.fadr 1 (tt 14)),
     o 112 (.load false 1 (tt 111)),
     o 113 (.len (tt 112)),
     o 114 (.mov (ci 0))])
   (.block 6
    (.loop ir68_L3)))
   ir68_T4))))
  ir68_T5))
def ir68_T7 : Ir :=
  (.seq
  (.dreg [151, 152, 153, 154, 155] [0, 1, 0, 4, 0, 3, 47, 127, 255] [(0, 1151), (0, 2151), (1, 1152), (1, 2152), (1, 3152), (1, 4152), (1, 5152), (1, 6152), (1, 7152), (1, 8152), (3, 1154)] [o 151 (.load true 2 (tt 14)),
    o 152 (.call 67 [(tt 151)]),
    o 153 (.fadr 1 (tt 15)),
    o 154 (.load false 1 (tt 153)),
    o 155 (.mov (tt 16)),
    on (.store 2 (tt 10) (tt 152)),
    o 11 (.mov (tt 154)),
    o 12 (.mov (tt 155)),
    o 13 (.mov (cb true))])
  .ret)
def ir68_T8 : Ir :=
  (.seq
  (.seq
  (.reg [100, 101, 102] [o 100 (.mov (tt 16)),
    o 101 (.len (tt 100)),
    o 102 (.bin .sub (tt 101) (ci 1)),
    o 20 (.mov (tt 102))])
  (.block 4
   (.loop ir68_L6)))
  ir68_T7)
def ir68_T9 : Ir :=
  (.seq
  (.seq
  (.reg [72, 73] [o 72 (.fadr 1 (tt 14)),
    o 73 (.load false 1 (tt 72)),
    o 74 (.len (tt 73)),
    o 75 (.mov (ci 0))])
  (.block 2
   (.loop ir68_L2)))
  ir68_T8)
def ir68 : Ir :=
  (.seq
  (.reg [] [o 5 (.box 2 (tt 0)),
    o 10 (.alloc [(.slice none 0 0), (.slice none 0 0)]),
    o 11 (.mov (ci 0)),
    o 12 (.mov (.const (.slice none 0 0))),
    o 13 (.mov (cb false))])
  (.seq
  (.seq
  (.reg [25, 26, 27, 28, 29, 30, 31, 32, 33, 34, 35, 36, 37, 38, 39, 40, 41] [o 25 (.load true 2 (tt 5)),
    o 26 (.call 58 [(tt 25)]),
    o 27 (.un .not (tt 26)),
    o 28 (.mov (tt 27)),
    og 29 28 false (.mov (tt 1)),
    og 30 28 false (.call 60 [(tt 29)]),
    og 31 28 false (.un .not (tt 30)),
    o 32 (.pick (tt 28) (cb true) (tt 31)),
    o 33 (.mov (tt 32)),
    og 34 33 false (.mov (tt 3)),
    og 35 33 false (.call 133 [(tt 34)]),
    og 36 33 false (.un .not (tt 35)),
    o 37 (.pick (tt 33) (cb true) (tt 36)),
    o 38 (.mov (tt 37)),
    og 39 38 false (.mov (tt 4)),
    og 40 38 false (.call 61 [(tt 39)]),
    og 41 38 false (.un .not (tt 40)),
    o 42 (.pick (tt 38) (cb true) (tt 41))])
  (.cond (tt 42)
   (.seq
   (.reg [43] [o 43 (.build [(.slice none 0 0), (.slice none 0 0)] []),
     on (.store 2 (tt 10) (tt 43)),
     o 11 (.mov (ci 0)),
     o 12 (.mov (.const (.slice none 0 0))),
     o 13 (.mov (cb false))])
   .ret)
   .skip))
  (.seq
  (.reg [44, 45] [o 44 (.load true 2 (tt 5)),
    o 45 (.call 67 [(tt 44)]),
    o 14 (.alloc [(.slice none 0 0), (.slice none 0 0)]),
    on (.store 2 (tt 14) (tt 45))])
  (.seq
  (.reg [46, 47, 48] [o 46 (.load true 2 (tt 14)),
    o 47 (.mov (tt 1)),
    o 48 (.call 138 [(tt 46), (tt 47)]),
    o 15 (.alloc [(.int .i64 0), (.int .i64 0), (.int .i64 0)]),
    on (.store 3 (tt 15) (tt 48))])
  (.seq
  (.reg [49, 50, 51] [o 49 (.fadr 2 (tt 15)),
    o 50 (.load false 1 (tt 49)),
    o 51 (.call 62 [(tt 50)]),
    o 16 (.mov (tt 51))])
  (.seq
  (.seq
  (.reg [] [o 52 (.mov (tt 16)),
    o 53 (.len (tt 52)),
    o 54 (.mov (ci 0))])
  (.block 0
   (.loop ir68_L1)))
  ir68_T9))))))
def keep68 : List Nat := [0, 1, 2, 3, 4, 5, 10, 11, 12, 13, 14, 15, 16, 18, 19, 20, 21, 22, 24, 42, 52, 53, 54, 55, 74, 75, 76, 85, 92, 104, 112, 113, 114, 115, 131]
def res68 : List RI := [.cell true 2 10, .tmp 11, .tmp 12, .tmp 13]
theorem chk68 : chk Tryd.prog 68 5 keep68 = some (ir68, res68) := by kernel_rfl
def ir181_L1 : Ir :=
  (.seq
  (.seq
  (.reg [44, 45, 46] [o 44 (.mov (tt 17)),
    o 45 (.mov (tt 15)),
    o 46 (.len (tt 45)),
    o 47 (.bin .lss (tt 44) (tt 46))])
  (.cond (tt 47)
   .skip
   (.exit 0)))
  (.seq
  (.block 1
   (.seq
   (.dreg [50, 51, 52, 53, 54, 55, 56, 57, 58, 59, 60, 61] [0, 1, 0, 4, 0, 0, 48, 112, 252, 508, 1023, 2047, 4095] [(1, 1051), (3, 1053), (7, 1057), (9, 1059), (10, 60)] [o 50 (.fadr 1 (tt 16)),
     o 51 (.load false 1 (tt 50)),
     o 52 (.fadr 0 (tt 16)),
     o 53 (.load false 1 (tt 52)),
     o 54 (.mov (tt 15)),
     o 55 (.mov (tt 17)),
     o 56 (.idx 1 (tt 54) (tt 55)),
     o 57 (.load false 1 (tt 56)),
     o 58 (.idx 1 (tt 53) (tt 57)),
     o 59 (.load false 1 (tt 58)),
     o 60 (.app 3 24 true (tt 51) (tt 59)),
     o 61 (.fadr 1 (tt 16)),
     on (.store 1 (tt 61) (tt 60))])
   (.dreg [62, 63, 64, 65, 66, 67, 68, 69] [0, 1, 0, 0, 12, 28, 0, 127, 255] [(1, 1063), (5, 1067), (6, 68)] [o 62 (.fadr 0 (tt 16)),
     o 63 (.load false 1 (tt 62)),
     o 64 (.mov (tt 15)),
     o 65 (.mov (tt 17)),
     o 66 (.idx 1 (tt 64) (tt 65)),
     o 67 (.load false 1 (tt 66)),
     o 68 (.mkSl 3 0 [(.int .i64 0), (.int .i64 0), (.int .i64 0)] []),
     o 69 (.idx 1 (tt 63) (tt 67)),
     on (.store 1 (tt 69) (tt 68))])))
  (.reg [48, 49] [o 48 (.mov (tt 17)),
    o 49 (.bin .add (tt 48) (ci 1)),
    o 17 (.mov (tt 49))])))
def ir181_L2 : Ir :=
  (.seq
  (.seq
  (.reg [70, 71, 72, 73] [o 70 (.mov (tt 19)),
    o 71 (.fadr 1 (tt 16)),
    o 72 (.load false 1 (tt 71)),
    o 73 (.len (tt 72)),
    o 74 (.bin .lss (tt 70) (tt 73))])
  (.cond (tt 74)
   .skip
   (.exit 2)))
  (.seq
  (.block 3
   (.seq
   (.reg [77, 78, 79, 80, 81, 82, 83] [o 77 (.fadr 1 (tt 16)),
     o 78 (.load false 1 (tt 77)),
     o 79 (.mov (tt 19)),
     o 80 (.idx 3 (tt 78) (tt 79)),
     o 81 (.fadr 0 (tt 80)),
     o 82 (.load false 1 (tt 81)),
     o 83 (.mov (tt 1)),
     o 84 (.bin .eql (tt 82) (tt 83))])
   (.cond (tt 84)
    (.seq
    (.reg [85, 86, 87, 88, 89, 90] [o 85 (.fadr 1 (tt 16)),
      o 86 (.load false 1 (tt 85)),
      o 87 (.mov (tt 19)),
      o 88 (.idx 3 (tt 86) (tt 87)),
      o 89 (.fadr 1 (tt 88)),
      o 90 (.load false 1 (tt 89)),
      o 18 (.mov (tt 90))])
    (.seq
    (.reg [91, 92, 93, 94, 95, 96] [o 91 (.fadr 1 (tt 16)),
      o 92 (.load false 1 (tt 91)),
      o 93 (.mov (tt 19)),
      o 94 (.mov (tt 4)),
      o 95 (.idx 3 (tt 92) (tt 93)),
      o 96 (.fadr 2 (tt 95)),
      on (.store 1 (tt 96) (tt 94))])
    (.seq
    (.reg [] [o 97 (.mov (tt 2))])
    (.cond (tt 97)
     (.reg [98, 99, 100, 101, 102, 103] [o 98 (.fadr 1 (tt 16)),
       o 99 (.load false 1 (tt 98)),
       o 100 (.mov (tt 19)),
       o 101 (.mov (tt 3)),
       o 102 (.idx 3 (tt 99) (tt 100)),
       o 103 (.fadr 1 (tt 102)),
       on (.store 1 (tt 103) (tt 101))])
     .skip))))
    .skip)))
  (.reg [75, 76] [o 75 (.mov (tt 19)),
    o 76 (.bin .add (tt 75) (ci 1)),
    o 19 (.mov (tt 76))])))
def ir181_C1 : Ir :=
  (.dreg [142, 143, 144, 145, 146, 147, 148, 149, 150, 151, 152, 153, 154, 155, 156, 157, 158, 159, 160, 161, 162, 163] [0, 1, 0, 0, 12, 28, 0, 64, 0, 0, 768, 1792, 4032, 8128, 0, 16384, 0, 114688, 245760, 507904, 1048512, 2097151, 4194303] [(1, 1143), (5, 1147), (7, 1149), (11, 1153), (13, 1155), (15, 1157), (18, 1160), (18, 2160), (18, 3160), (19, 161), (20, 162)] [o 142 (.fadr 0 (tt 16)),
      o 143 (.load false 1 (tt 142)),
      o 144 (.mov (tt 15)),
      o 145 (.mov (tt 20)),
      o 146 (.idx 1 (tt 144) (tt 145)),
      o 147 (.load false 1 (tt 146)),
      o 148 (.fadr 0 (tt 16)),
      o 149 (.load false 1 (tt 148)),
      o 150 (.mov (tt 15)),
      o 151 (.mov (tt 20)),
      o 152 (.idx 1 (tt 150) (tt 151)),
      o 153 (.load false 1 (tt 152)),
      o 154 (.idx 1 (tt 149) (tt 153)),
      o 155 (.load false 1 (tt 154)),
      o 156 (.fadr 1 (tt 16)),
      o 157 (.load false 1 (tt 156)),
      o 158 (.mov (tt 22)),
      o 159 (.idx 3 (tt 157) (tt 158)),
      o 160 (.load true 3 (tt 159)),
      o 161 (.mkSl 3 1 [(.int .i64 0), (.int .i64 0), (.int .i64 0)] [(0, (tt 160))]),
      o 162 (.app 3 24 true (tt 155) (tt 161)),
      o 163 (.idx 1 (tt 143) (tt 147)),
      on (.store 1 (tt 163) (tt 162))])
def ir181_D1 : Ir :=
  (.reg [117, 118] [o 117 (.mov (tt 22)),
    o 118 (.bin .add (tt 117) (ci 1)),
    o 22 (.mov (tt 118))])
def ir181_L3 : Ir :=
  (.seq
  (.seq
  (.reg [112, 113, 114, 115] [o 112 (.mov (tt 22)),
    o 113 (.fadr 1 (tt 16)),
    o 114 (.load false 1 (tt 113)),
    o 115 (.len (tt 114)),
    o 116 (.bin .lss (tt 112) (tt 115))])
  (.cond (tt 116)
   .skip
   (.exit 6)))
  (.seq
  (.block 7
   (.seq
   (.dreg [119, 120, 121, 122, 123, 124, 125, 126, 127, 128, 129, 130, 131, 132, 133, 134, 135, 136, 137, 138, 139, 140] [0, 1, 0, 0, 12, 28, 63, 127, 255, 511, 1023, 2047, 2047, 8191, 16383, 2047, 34815, 2047, 231423, 493567, 1017855, 2097151, 4194303] [(1, 1120), (5, 1124), (7, 1126), (14, 1133), (16, 1135), (20, 1139), (21, 1140), (21, 2140), (21, 3140), (21, 4140), (21, 5140), (21, 6140), (21, 7140), (21, 8140)] [o 119 (.fadr 0 (tt 16)),
     o 120 (.load false 1 (tt 119)),
     o 121 (.mov (tt 15)),
     o 122 (.mov (tt 20)),
     o 123 (.idx 1 (tt 121) (tt 122)),
     o 124 (.load false 1 (tt 123)),
     o 125 (.idx 1 (tt 120) (tt 124)),
     o 126 (.load false 1 (tt 125)),
     o 127 (.len (tt 126)),
     o 128 (.bin .lss (tt 127) (ci 2)),
     o 129 (.mov (tt 128)),
     og 130 129 true (.mov (tt 15)),
     og 131 129 true (.mov (tt 20)),
     og 132 129 true (.idx 1 (tt 130) (tt 131)),
     og 133 129 true (.load false 1 (tt 132)),
     og 134 129 true (.fadr 1 (tt 16)),
     og 135 129 true (.load false 1 (tt 134)),
     og 136 129 true (.mov (tt 22)),
     og 137 129 true (.idx 3 (tt 135) (tt 136)),
     og 138 129 true (.fadr 2 (tt 137)),
     og 139 129 true (.load false 1 (tt 138)),
     og 140 129 true (.call 137 [(tt 133), (tt 139)]),
     o 141 (.pick (tt 129) (tt 140) (cb false))])
   (.cond (tt 141)
    ir181_C1
    (.reg [164, 165, 166, 167, 168, 169, 170, 171] [o 164 (.mov (tt 21)),
      o 165 (.fadr 1 (tt 16)),
      o 166 (.load false 1 (tt 165)),
      o 167 (.mov (tt 22)),
      o 168 (.idx 3 (tt 166) (tt 167)),
      o 169 (.load true 3 (tt 168)),
      o 170 (.mkSl 3 1 [(.int .i64 0), (.int .i64 0), (.int .i64 0)] [(0, (tt 169))]),
      o 171 (.app 3 24 true (tt 164) (tt 170)),
      o 21 (.mov (tt 171))]))))
  ir181_D1))
def ir181_T4 : Ir :=
  (.reg [172, 173] [o 172 (.mov (tt 21)),
    o 173 (.fadr 1 (tt 16)),
    on (.store 1 (tt 173) (tt 172))])
def ir181_T5 : Ir :=
  (.reg [109, 110] [o 109 (.mov (tt 20)),
    o 110 (.bin .sub (tt 109) (ci 1)),
    o 20 (.mov (tt 110))])
def ir181_L6 : Ir :=
  (.seq
  (.seq
  (.reg [107] [o 107 (.mov (tt 20)),
    o 108 (.bin .geq (tt 107) (ci 0))])
  (.cond (tt 108)
   .skip
   (.exit 4)))
  (.seq
  (.block 5
   (.seq
   (.reg [111] [o 111 (.mkSl 3 0 [(.int .i64 0), (.int .i64 0), (.int .i64 0)] []),
     o 21 (.mov (tt 111))])
   (.seq
   (.seq
   (.reg [] [o 22 (.mov (ci 0))])
   (.block 6
    (.loop ir181_L3)))
   ir181_T4)))
  ir181_T5))
def ir181_T7 : Ir :=
  (.seq
  (.reg [174, 175, 176] [o 174 (.load true 2 (tt 16)),
    o 175 (.mov (tt 18)),
    o 176 (.mov (tt 15)),
    on (.store 2 (tt 10) (tt 174)),
    o 11 (.mov (tt 175)),
    o 12 (.mov (tt 176)),
    o 13 (.mov (cb true))])
  .ret)
def ir181_T8 : Ir :=
  (.seq
  (.seq
  (.reg [104, 105, 106] [o 104 (.mov (tt 15)),
    o 105 (.len (tt 104)),
    o 106 (.bin .sub (tt 105) (ci 1)),
    o 20 (.mov (tt 106))])
  (.block 4
   (.loop ir181_L6)))
  ir181_T7)
def ir181_T9 : Ir :=
  (.seq
  (.reg [] [o 18 (.mov (ci 0))])
  (.seq
  (.seq
  (.reg [] [o 19 (.mov (ci 0))])
  (.block 2
   (.loop ir181_L2)))
  ir181_T8))
def ir181 : Ir :=
  (.seq
  (.reg [] [o 5 (.box 2 (tt 0)),
    o 10 (.alloc [(.slice none 0 0), (.slice none 0 0)]),
    o 11 (.mov (ci 0)),
    o 12 (.mov (.const (.slice none 0 0))),
    o 13 (.mov (cb false))])
  (.seq
  (.reg [23, 24, 25] [o 23 (.load true 2 (tt 5)),
    o 24 (.mov (tt 1)),
    o 25 (.call 65 [(tt 23), (tt 24)]),
    o 14 (.mov (tt 25))])
  (.seq
  (.seq
  (.reg [26, 27, 28, 29, 30, 31, 32, 33, 34, 35, 36] [o 26 (.mov (tt 14)),
    o 27 (.bin .lss (tt 26) (ci 0)),
    o 28 (.mov (tt 27)),
    og 29 28 false (.mov (tt 3)),
    og 30 28 false (.call 64 [(tt 29), (ci (-100000)), (ci 100000)]),
    og 31 28 false (.un .not (tt 30)),
    o 32 (.pick (tt 28) (cb true) (tt 31)),
    o 33 (.mov (tt 32)),
    og 34 33 false (.mov (tt 4)),
    og 35 33 false (.call 64 [(tt 34), (ci 0), (ci 3)]),
    og 36 33 false (.un .not (tt 35)),
    o 37 (.pick (tt 33) (cb true) (tt 36))])
  (.cond (tt 37)
   (.seq
   (.reg [38, 39] [o 38 (.build [(.slice none 0 0), (.slice none 0 0)] []),
     o 39 (.mkSl 1 0 [(.int .i64 0)] []),
     on (.store 2 (tt 10) (tt 38)),
     o 11 (.mov (ci 0)),
     o 12 (.mov (tt 39)),
     o 13 (.mov (cb false))])
   .ret)
   .skip))
  (.seq
  (.reg [40, 41] [o 40 (.mov (tt 14)),
    o 41 (.call 66 [(tt 40)]),
    o 15 (.mov (tt 41))])
  (.seq
  (.reg [42, 43] [o 42 (.load true 2 (tt 5)),
    o 43 (.call 180 [(tt 42)]),
    o 16 (.alloc [(.slice none 0 0), (.slice none 0 0)]),
    on (.store 2 (tt 16) (tt 43))])
  (.seq
  (.seq
  (.reg [] [o 17 (.mov (ci 0))])
  (.block 0
   (.loop ir181_L1)))
  ir181_T9))))))
def keep181 : List Nat := [0, 1, 2, 3, 4, 5, 10, 11, 12, 13, 14, 15, 16, 17, 18, 19, 20, 21, 22, 37, 47, 74, 84, 97, 108, 116, 141]
def res181 : List RI := [.cell true 2 10, .tmp 11, .tmp 12, .tmp 13]
theorem chk181 : chk Tryd.prog 181 5 keep181 = some (ir181, res181) := by kernel_rfl

def pth (l : Int) (k : Nat) : Nat := (litI (pathL l) k).toNat
def T1 (T : List (List Blk)) (l : Int) : Nat → List (List Blk)
  | 0 => T
  | k + 1 => (T1 T l k).set (pth l k) []
def S1 (T : List (List Blk)) (S : List Blk) (l : Int) : Nat → List Blk
  | 0 => S
  | k + 1 => S1 T S l k ++ (T1 T l k).getD (pth l k) []
def upB (x : Int) (wr : Bool) (v l : Int) (b : Blk) : Blk := if b.a = x then ⟨b.a, if wr then v else b.v, l⟩ else b
def updL (x : Int) (wr : Bool) (v l : Int) (A : List Blk) (k : Nat) : List Blk := (A.take k).map (upB x wr v l) ++ A.drop k
def hadK (x : Int) (A : List Blk) : Nat → Int
  | 0 => 0
  | k + 1 => if (A.getD k b0).a = x then (A.getD k b0).v else hadK x A k
def fillStep (i : Int) (p : List Blk × List Blk) (b : Blk) : List Blk × List Blk := if p.1.length < 2 ∧ onB b.l i = true then (p.1 ++ [b], p.2) else (p.1, p.2 ++ [b])
def fillK (i : Int) (B L : List Blk) (j : Nat) : List Blk × List Blk := (L.take j).foldl (fillStep i) (B, [])
def F3 (l : Int) (T : List (List Blk)) (S : List Blk) : Nat → List (List Blk) × List Blk
  | 0 => (T, S)
  | i + 1 => let p := F3 l T S i
             let r := fillK (pth l (2 - i)) (p.1.getD (pth l (2 - i)) []) p.2 p.2.length
             (p.1.set (pth l (2 - i)) r.1, r.2)
abbrev PT3 (l : Int) : AV := .p true (.sl true 1 3 (PA l))
abbrev nilA : AV := .p true (.v (.slice none 0 0))
abbrev nilB2 : Ob := .box [.p true (.v (.slice none 0 0)), .p true (.v (.slice none 0 0))]
def in_imU (T : List (List Blk)) (S : List Blk) (x : Int) (wr : Bool) (v lf : Int) := (G0, res68, ([] : List (Nat × Ob)), [Item.ir ir68], start [ME T S, AI x, AB wr, AI v, AI lf] [])
theorem ev_imU : ∀ (T : List (List Blk)) (S : List Blk) (x : Int) (wr : Bool) (v lf : Int), ev G0 res68 [] (3000 : Nat) (Or.call [] (AB (memB T S)) [] (Or.nil.lit.lit.lit.lit.lit.lit.lit.lit.lit.lit.lit.lit.split (Or.call [] (AB (inB x (0 : Int) (7 : Int))) [] (Or.nil.lit.lit.lit.lit.lit.lit.lit.lit.split (Or.call [] (AB (valB v)) [] (Or.nil.lit.lit.lit.lit.split (Or.call [] (AB (inB lf (0 : Int) (3 : Int))) [] (Or.nil.split (Or.call [] meR (meH T S) (Or.call [] (BA (blkOf (allM T S) x)) [] (Or.call [] (AV.own (0 : Nat)) [((0 : Nat), Ob.row Mode.u true (1 : Nat) (3 : Nat) (PA (blkOf (allM T S) x).l) [])] Or.nil)))).lit.lit).lit).lit.lit).lit).lit.lit).lit)) [Item.ir ir68] (start [ME T S, AI x, AB wr, AI v, AI lf] []) = VC.call (58 : Nat) [AV.ag [AV.p false (PV.sl false (1 : Nat) T.length (BB T)), AV.p false (PV.sl false (3 : Nat) S.length (SB S))]] [] (AB (memB T S)) [] (VC.split (!memB T S) (VC.done (St.mk [((0 : Nat), AV.ag [AV.p false (PV.sl false (1 : Nat) T.length (BB T)), AV.p false (PV.sl false (3 : Nat) S.length (SB S))]), ((1 : Nat), AV.p true (PV.v (Value.int IntKind.i64 x))), ((2 : Nat), AV.p true (PV.v (Value.bool wr))), ((3 : Nat), AV.p true (PV.v (Value.int IntKind.i64 v))), ((4 : Nat), AV.p true (PV.v (Value.int IntKind.i64 lf))), ((5 : Nat), AV.adr (5 : Nat) (0 : Nat)), ((10 : Nat), AV.adr (10 : Nat) (0 : Nat)), ((11 : Nat), AV.p true (PV.v (Value.int IntKind.i64 (0 : Int)))), ((12 : Nat), AV.p true (PV.v (Value.slice none (0 : Nat) (0 : Nat)))), ((13 : Nat), AV.p true (PV.v (Value.bool false))), ((42 : Nat), AV.p true (PV.v (Value.bool true)))] [((5 : Nat), Ob.box [AV.p false (PV.sl false (1 : Nat) T.length (BB T)), AV.p false (PV.sl false (3 : Nat) S.length (SB S))]), ((10 : Nat), Ob.box [AV.p true (PV.v (Value.slice none (0 : Nat) (0 : Nat))), AV.p true (PV.v (Value.slice none (0 : Nat) (0 : Nat)))])])) (VC.call (60 : Nat) [AV.p true (PV.v (Value.int IntKind.i64 x))] [] (AB (inB x (0 : Int) (7 : Int))) [] (VC.split (!inB x (0 : Int) (7 : Int)) (VC.done (St.mk [((0 : Nat), AV.ag [AV.p false (PV.sl false (1 : Nat) T.length (BB T)), AV.p false (PV.sl false (3 : Nat) S.length (SB S))]), ((1 : Nat), AV.p true (PV.v (Value.int IntKind.i64 x))), ((2 : Nat), AV.p true (PV.v (Value.bool wr))), ((3 : Nat), AV.p true (PV.v (Value.int IntKind.i64 v))), ((4 : Nat), AV.p true (PV.v (Value.int IntKind.i64 lf))), ((5 : Nat), AV.adr (5 : Nat) (0 : Nat)), ((10 : Nat), AV.adr (10 : Nat) (0 : Nat)), ((11 : Nat), AV.p true (PV.v (Value.int IntKind.i64 (0 : Int)))), ((12 : Nat), AV.p true (PV.v (Value.slice none (0 : Nat) (0 : Nat)))), ((13 : Nat), AV.p true (PV.v (Value.bool false))), ((42 : Nat), AV.p true (PV.v (Value.bool true)))] [((5 : Nat), Ob.box [AV.p false (PV.sl false (1 : Nat) T.length (BB T)), AV.p false (PV.sl false (3 : Nat) S.length (SB S))]), ((10 : Nat), Ob.box [AV.p true (PV.v (Value.slice none (0 : Nat) (0 : Nat))), AV.p true (PV.v (Value.slice none (0 : Nat) (0 : Nat)))])])) (VC.call (133 : Nat) [AV.p true (PV.v (Value.int IntKind.i64 v))] [] (AB (valB v)) [] (VC.split (!valB v) (VC.done (St.mk [((0 : Nat), AV.ag [AV.p false (PV.sl false (1 : Nat) T.length (BB T)), AV.p false (PV.sl false (3 : Nat) S.length (SB S))]), ((1 : Nat), AV.p true (PV.v (Value.int IntKind.i64 x))), ((2 : Nat), AV.p true (PV.v (Value.bool wr))), ((3 : Nat), AV.p true (PV.v (Value.int IntKind.i64 v))), ((4 : Nat), AV.p true (PV.v (Value.int IntKind.i64 lf))), ((5 : Nat), AV.adr (5 : Nat) (0 : Nat)), ((10 : Nat), AV.adr (10 : Nat) (0 : Nat)), ((11 : Nat), AV.p true (PV.v (Value.int IntKind.i64 (0 : Int)))), ((12 : Nat), AV.p true (PV.v (Value.slice none (0 : Nat) (0 : Nat)))), ((13 : Nat), AV.p true (PV.v (Value.bool false))), ((42 : Nat), AV.p true (PV.v (Value.bool true)))] [((5 : Nat), Ob.box [AV.p false (PV.sl false (1 : Nat) T.length (BB T)), AV.p false (PV.sl false (3 : Nat) S.length (SB S))]), ((10 : Nat), Ob.box [AV.p true (PV.v (Value.slice none (0 : Nat) (0 : Nat))), AV.p true (PV.v (Value.slice none (0 : Nat) (0 : Nat)))])])) (VC.call (61 : Nat) [AV.p true (PV.v (Value.int IntKind.i64 lf))] [] (AB (inB lf (0 : Int) (3 : Int))) [] (VC.split (!inB lf (0 : Int) (3 : Int)) (VC.done (St.mk [((0 : Nat), AV.ag [AV.p false (PV.sl false (1 : Nat) T.length (BB T)), AV.p false (PV.sl false (3 : Nat) S.length (SB S))]), ((1 : Nat), AV.p true (PV.v (Value.int IntKind.i64 x))), ((2 : Nat), AV.p true (PV.v (Value.bool wr))), ((3 : Nat), AV.p true (PV.v (Value.int IntKind.i64 v))), ((4 : Nat), AV.p true (PV.v (Value.int IntKind.i64 lf))), ((5 : Nat), AV.adr (5 : Nat) (0 : Nat)), ((10 : Nat), AV.adr (10 : Nat) (0 : Nat)), ((11 : Nat), AV.p true (PV.v (Value.int IntKind.i64 (0 : Int)))), ((12 : Nat), AV.p true (PV.v (Value.slice none (0 : Nat) (0 : Nat)))), ((13 : Nat), AV.p true (PV.v (Value.bool false))), ((42 : Nat), AV.p true (PV.v (Value.bool !inB lf (0 : Int) (3 : Int))))] [((5 : Nat), Ob.box [AV.p false (PV.sl false (1 : Nat) T.length (BB T)), AV.p false (PV.sl false (3 : Nat) S.length (SB S))]), ((10 : Nat), Ob.box [AV.p true (PV.v (Value.slice none (0 : Nat) (0 : Nat))), AV.p true (PV.v (Value.slice none (0 : Nat) (0 : Nat)))])])) (VC.call (67 : Nat) [AV.ag [AV.p false (PV.sl false (1 : Nat) T.length (BB T)), AV.p false (PV.sl false (3 : Nat) S.length (SB S))]] [] meR (meH T S) (VC.call (138 : Nat) [AV.ag [AV.p false (PV.sl false (1 : Nat) T.length (BB T)), AV.p false (PV.sl false (3 : Nat) S.length (SB S))], AV.p true (PV.v (Value.int IntKind.i64 x))] [] (BA (blkOf (allM T S) x)) [] (VC.call (62 : Nat) [AV.p true (PV.v (Value.int IntKind.i64 (blkOf (allM T S) x).l))] [] (AV.own (0 : Nat)) [((0 : Nat), Ob.row Mode.u true (1 : Nat) (3 : Nat) (PA (blkOf (allM T S) x).l) [])] (VC.loop ir68_L1 [Item.bend (0 : Nat), Item.ir ir68_T9] (St.mk [((0 : Nat), AV.ag [AV.p false (PV.sl false (1 : Nat) T.length (BB T)), AV.p false (PV.sl false (3 : Nat) S.length (SB S))]), ((1 : Nat), AV.p true (PV.v (Value.int IntKind.i64 x))), ((2 : Nat), AV.p true (PV.v (Value.bool wr))), ((3 : Nat), AV.p true (PV.v (Value.int IntKind.i64 v))), ((4 : Nat), AV.p true (PV.v (Value.int IntKind.i64 lf))), ((5 : Nat), AV.adr (5 : Nat) (0 : Nat)), ((10 : Nat), AV.adr (10 : Nat) (0 : Nat)), ((11 : Nat), AV.p true (PV.v (Value.int IntKind.i64 (0 : Int)))), ((12 : Nat), AV.p true (PV.v (Value.slice none (0 : Nat) (0 : Nat)))), ((13 : Nat), AV.p true (PV.v (Value.bool false))), ((42 : Nat), AV.p true (PV.v (Value.bool !inB lf (0 : Int) (3 : Int)))), ((14 : Nat), AV.adr (14 : Nat) (0 : Nat)), ((15 : Nat), AV.adr (15 : Nat) (0 : Nat)), ((16 : Nat), AV.own (1051 : Nat)), ((52 : Nat), AV.own (1051 : Nat)), ((53 : Nat), AV.p true (PV.v (Value.int IntKind.i64 (↑(3 : Nat) : Int)))), ((54 : Nat), AV.p true (PV.v (Value.int IntKind.i64 (0 : Int))))] [((5 : Nat), Ob.box [AV.p false (PV.sl false (1 : Nat) T.length (BB T)), AV.p false (PV.sl false (3 : Nat) S.length (SB S))]), ((10 : Nat), Ob.box [AV.p true (PV.v (Value.slice none (0 : Nat) (0 : Nat))), AV.p true (PV.v (Value.slice none (0 : Nat) (0 : Nat)))]), ((1045 : Nat), Ob.row Mode.u false (1 : Nat) T.length (BB T) []), ((2045 : Nat), Ob.row Mode.u false (3 : Nat) S.length (SB S) []), ((14 : Nat), Ob.box [AV.own (1045 : Nat), AV.own (2045 : Nat)]), ((15 : Nat), Ob.box [AV.p true (PV.v (Value.int IntKind.i64 (blkOf (allM T S) x).a)), AV.p true (PV.v (Value.int IntKind.i64 (blkOf (allM T S) x).v)), AV.p true (PV.v (Value.int IntKind.i64 (blkOf (allM T S) x).l))]), ((1051 : Nat), Ob.row Mode.u true (1 : Nat) (3 : Nat) (PA (blkOf (allM T S) x).l) [])])))))))))))) := by intros; kernel_rfl
def st_imU1 (x : Int) (wr : Bool) (v lf l : Int) (o : Blk) (T : List (List Blk)) (S : List Blk) (k : Nat) : St := ⟨[(1, AI x), (2, AB wr), (3, AI v), (4, AI lf), (10, .adr 10 0), (11, AI 0), (12, nilA), (13, AB false), (14, .adr 14 0), (15, .adr 15 0), (16, .own 1051), (52, .own 1051), (53, AI 3), (54, AI k)], [(10, nilB2), (15, .box [AI o.a, AI o.v, AI o.l]), (1051, .row .u true 1 3 (PA l) []), (14, .box [.own 1045, .own 2045]), (1045, .row .u false 1 (T1 T l k).length (BB (T1 T l k)) []), (2045, .row .u false 3 (S1 T S l k).length (SB (S1 T S l k)) [])]⟩
def r_imU1 (x : Int) (wr : Bool) (v lf l : Int) (o : Blk) (T : List (List Blk)) (S : List Blk) (I : Nat → St → Prop) (k : Nat) := (G0, res68, ([] : List (Nat × Ob)), [Item.ir ir68_L1, .lend (I k), Item.bend 0, Item.ir ir68_T9], st_imU1 x wr v lf l o T S k)
theorem evr_imU1 : ∀ (x : Int) (wr : Bool) (v lf l : Int) (o : Blk) (T : List (List Blk)) (S : List Blk) (I : Nat → St → Prop) (k : Nat), ev G0 res68 [] (3000 : Nat) (Or.nil.split Or.nil) [Item.ir ir68_L1, Item.lend (I k), Item.bend (0 : Nat), Item.ir ir68_T9] (st_imU1 x wr v lf l o T S k) = VC.split (decide ((↑k : Int) < (3 : Int))) (VC.need ((0 : Int) ≤ (↑k : Int) ∧ (↑k : Int).toNat < (3 : Nat)) (VC.need ((↑k : Int).toNat < (3 : Nat)) (VC.need ((0 : Int) ≤ litI [(0 : Int), (1 : Int) + l / (2 : Int), (3 : Int) + l] (↑k : Int).toNat ∧ (litI [(0 : Int), (1 : Int) + l / (2 : Int), (3 : Int) + l] (↑k : Int).toNat).toNat < (T1 T l k).length) (VC.need ((litI [(0 : Int), (1 : Int) + l / (2 : Int), (3 : Int) + l] (↑k : Int).toNat).toNat < (T1 T l k).length) (VC.need ((((S1 T S l k).length + ((T1 T l k).getD (litI [(0 : Int), (1 : Int) + l / (2 : Int), (3 : Int) + l] (↑k : Int).toNat).toNat []).length) * (24 : Nat) ≤ (140737488355328 : Nat) ∧ (↑((S1 T S l k).length + ((T1 T l k).getD (litI [(0 : Int), (1 : Int) + l / (2 : Int), (3 : Int) + l] (↑k : Int).toNat).toNat []).length) : Int) ≤ (9223372036854775807 : Int)) ∧ allV (3 : Nat) ((T1 T l k).getD (litI [(0 : Int), (1 : Int) + l / (2 : Int), (3 : Int) + l] (↑k : Int).toNat).toNat []).length (SB ((T1 T l k).getD (litI [(0 : Int), (1 : Int) + l / (2 : Int), (3 : Int) + l] (↑k : Int).toNat).toNat []))) (VC.need ((0 : Int) ≤ litI [(0 : Int), (1 : Int) + l / (2 : Int), (3 : Int) + l] (↑k : Int).toNat ∧ (litI [(0 : Int), (1 : Int) + l / (2 : Int), (3 : Int) + l] (↑k : Int).toNat).toNat < (T1 T l k).length) (VC.need ((litI [(0 : Int), (1 : Int) + l / (2 : Int), (3 : Int) + l] (↑k : Int).toNat).toNat < (T1 T l k).length) (VC.lend (I k) (St.mk [((1 : Nat), AV.p true (PV.v (Value.int IntKind.i64 x))), ((2 : Nat), AV.p true (PV.v (Value.bool wr))), ((3 : Nat), AV.p true (PV.v (Value.int IntKind.i64 v))), ((4 : Nat), AV.p true (PV.v (Value.int IntKind.i64 lf))), ((10 : Nat), AV.adr (10 : Nat) (0 : Nat)), ((11 : Nat), AV.p true (PV.v (Value.int IntKind.i64 (0 : Int)))), ((12 : Nat), AV.p true (PV.v (Value.slice none (0 : Nat) (0 : Nat)))), ((13 : Nat), AV.p true (PV.v (Value.bool false))), ((14 : Nat), AV.adr (14 : Nat) (0 : Nat)), ((15 : Nat), AV.adr (15 : Nat) (0 : Nat)), ((16 : Nat), AV.own (1051 : Nat)), ((52 : Nat), AV.own (1051 : Nat)), ((53 : Nat), AV.p true (PV.v (Value.int IntKind.i64 (3 : Int)))), ((54 : Nat), AV.p true (PV.v (Value.int IntKind.i64 (IntKind.i64.wrap ((↑k : Int) + (1 : Int)))))), ((55 : Nat), AV.p true (PV.v (Value.bool (decide ((↑k : Int) < (3 : Int)))))), ((18 : Nat), AV.p true (PV.v (Value.int IntKind.i64 (litI [(0 : Int), (1 : Int) + l / (2 : Int), (3 : Int) + l] (↑k : Int).toNat))))] [((10 : Nat), Ob.box [AV.p true (PV.v (Value.slice none (0 : Nat) (0 : Nat))), AV.p true (PV.v (Value.slice none (0 : Nat) (0 : Nat)))]), ((15 : Nat), Ob.box [AV.p true (PV.v (Value.int IntKind.i64 o.a)), AV.p true (PV.v (Value.int IntKind.i64 o.v)), AV.p true (PV.v (Value.int IntKind.i64 o.l))]), ((1051 : Nat), Ob.row Mode.u true (1 : Nat) (3 : Nat) (PA l) []), ((14 : Nat), Ob.box [AV.own (1045 : Nat), AV.own (65 : Nat)]), ((1045 : Nat), Ob.row Mode.u false (1 : Nat) (T1 T l k).length (setG [((litI [(0 : Int), (1 : Int) + l / (2 : Int), (3 : Int) + l] (↑k : Int).toNat).toNat, (0 : Nat), PV.v (Value.slice none (0 : Nat) (0 : Nat)))] (cellSet (BB (T1 T l k)) (litI [(0 : Int), (1 : Int) + l / (2 : Int), (3 : Int) + l] (↑k : Int).toNat).toNat (nat_lit 0) (PV.sl false (3 : Nat) ((T1 T l k).getD (litI [(0 : Int), (1 : Int) + l / (2 : Int), (3 : Int) + l] (↑k : Int).toNat).toNat []).length (SB ((T1 T l k).getD (litI [(0 : Int), (1 : Int) + l / (2 : Int), (3 : Int) + l] (↑k : Int).toNat).toNat []))))) []), ((65 : Nat), Ob.row Mode.u false (3 : Nat) ((S1 T S l k).length + ((T1 T l k).getD (litI [(0 : Int), (1 : Int) + l / (2 : Int), (3 : Int) + l] (↑k : Int).toNat).toNat []).length) (fun (a b : Nat) => if a < (S1 T S l k).length then SB (S1 T S l k) a b else SB ((T1 T l k).getD (litI [(0 : Int), (1 : Int) + l / (2 : Int), (3 : Int) + l] (↑k : Int).toNat).toNat []) (a - (S1 T S l k).length) b) [])]))))))))) (VC.loop ir68_L2 [Item.bend (2 : Nat), Item.ir ir68_T8] (St.mk [((1 : Nat), AV.p true (PV.v (Value.int IntKind.i64 x))), ((2 : Nat), AV.p true (PV.v (Value.bool wr))), ((3 : Nat), AV.p true (PV.v (Value.int IntKind.i64 v))), ((4 : Nat), AV.p true (PV.v (Value.int IntKind.i64 lf))), ((10 : Nat), AV.adr (10 : Nat) (0 : Nat)), ((11 : Nat), AV.p true (PV.v (Value.int IntKind.i64 (0 : Int)))), ((12 : Nat), AV.p true (PV.v (Value.slice none (0 : Nat) (0 : Nat)))), ((13 : Nat), AV.p true (PV.v (Value.bool false))), ((14 : Nat), AV.adr (14 : Nat) (0 : Nat)), ((15 : Nat), AV.adr (15 : Nat) (0 : Nat)), ((16 : Nat), AV.own (1051 : Nat)), ((52 : Nat), AV.own (1051 : Nat)), ((53 : Nat), AV.p true (PV.v (Value.int IntKind.i64 (3 : Int)))), ((54 : Nat), AV.p true (PV.v (Value.int IntKind.i64 (↑k : Int)))), ((55 : Nat), AV.p true (PV.v (Value.bool (decide ((↑k : Int) < (3 : Int)))))), ((74 : Nat), AV.p true (PV.v (Value.int IntKind.i64 (↑(S1 T S l k).length : Int)))), ((75 : Nat), AV.p true (PV.v (Value.int IntKind.i64 (0 : Int))))] [((10 : Nat), Ob.box [AV.p true (PV.v (Value.slice none (0 : Nat) (0 : Nat))), AV.p true (PV.v (Value.slice none (0 : Nat) (0 : Nat)))]), ((15 : Nat), Ob.box [AV.p true (PV.v (Value.int IntKind.i64 o.a)), AV.p true (PV.v (Value.int IntKind.i64 o.v)), AV.p true (PV.v (Value.int IntKind.i64 o.l))]), ((1051 : Nat), Ob.row Mode.u true (1 : Nat) (3 : Nat) (PA l) []), ((14 : Nat), Ob.box [AV.own (1045 : Nat), AV.own (2045 : Nat)]), ((1045 : Nat), Ob.row Mode.u false (1 : Nat) (T1 T l k).length (BB (T1 T l k)) []), ((2045 : Nat), Ob.row Mode.u false (3 : Nat) (S1 T S l k).length (SB (S1 T S l k)) [])])) := by intros; kernel_rfl
def st_imU2 (x : Int) (wr : Bool) (v lf l : Int) (o : Blk) (T : List (List Blk)) (A : List Blk) (k : Nat) : St := ⟨[(1, AI x), (2, AB wr), (3, AI v), (4, AI lf), (10, .adr 10 0), (11, AI 0), (12, nilA), (13, AB false), (14, .adr 14 0), (15, .adr 15 0), (16, .own 1051), (74, AI A.length), (75, AI k)], [(10, nilB2), (15, .box [AI o.a, AI o.v, AI o.l]), (1051, .row .u true 1 3 (PA l) []), (14, .box [.own 1045, .own 2045]), (1045, .row .u false 1 T.length (BB T) []), (2045, .row .u false 3 (updL x wr v lf A k).length (SB (updL x wr v lf A k)) [])]⟩
def r_imU2 (x : Int) (wr : Bool) (v lf l : Int) (o : Blk) (T : List (List Blk)) (A : List Blk) (I : Nat → St → Prop) (k : Nat) := (G0, res68, ([] : List (Nat × Ob)), [Item.ir ir68_L2, .lend (I k), Item.bend 2, Item.ir ir68_T8], st_imU2 x wr v lf l o T A k)
theorem evr_imU2 : ∀ (x : Int) (wr : Bool) (v lf l : Int) (o : Blk) (T : List (List Blk)) (A : List Blk) (I : Nat → St → Prop) (k : Nat), ev G0 res68 [] (3000 : Nat) (((Or.nil.split Or.nil).split Or.nil).split Or.nil) [Item.ir ir68_L2, Item.lend (I k), Item.bend (2 : Nat), Item.ir ir68_T8] (st_imU2 x wr v lf l o T A k) = VC.split (decide ((↑k : Int) < (↑A.length : Int))) (VC.need ((0 : Int) ≤ (↑k : Int) ∧ (↑k : Int).toNat < (updL x wr v lf A k).length) (VC.need ((↑k : Int).toNat < (updL x wr v lf A k).length) (VC.split (((updL x wr v lf A k).getD (↑k : Int).toNat b0).col ((0 : Nat) + (0 : Nat)) == x) (VC.need ((0 : Int) ≤ (↑k : Int) ∧ (↑k : Int).toNat < (updL x wr v lf A k).length) (VC.need ((↑k : Int).toNat < (updL x wr v lf A k).length) (VC.split wr (VC.need ((0 : Int) ≤ (↑k : Int) ∧ (↑k : Int).toNat < (updL x wr v lf A k).length) (VC.need ((↑k : Int).toNat < (updL x wr v lf A k).length) (VC.lend (I k) (St.mk [((1 : Nat), AV.p true (PV.v (Value.int IntKind.i64 x))), ((2 : Nat), AV.p true (PV.v (Value.bool wr))), ((3 : Nat), AV.p true (PV.v (Value.int IntKind.i64 v))), ((4 : Nat), AV.p true (PV.v (Value.int IntKind.i64 lf))), ((10 : Nat), AV.adr (10 : Nat) (0 : Nat)), ((11 : Nat), AV.p true (PV.v (Value.int IntKind.i64 (0 : Int)))), ((12 : Nat), AV.p true (PV.v (Value.slice none (0 : Nat) (0 : Nat)))), ((13 : Nat), AV.p true (PV.v (Value.bool false))), ((14 : Nat), AV.adr (14 : Nat) (0 : Nat)), ((15 : Nat), AV.adr (15 : Nat) (0 : Nat)), ((16 : Nat), AV.own (1051 : Nat)), ((74 : Nat), AV.p true (PV.v (Value.int IntKind.i64 (↑A.length : Int)))), ((75 : Nat), AV.p true (PV.v (Value.int IntKind.i64 (IntKind.i64.wrap ((↑k : Int) + (1 : Int)))))), ((76 : Nat), AV.p true (PV.v (Value.bool (decide ((↑k : Int) < (↑A.length : Int)))))), ((19 : Nat), AV.p true (PV.v (Value.int IntKind.i64 (↑k : Int)))), ((85 : Nat), AV.p true (PV.v (Value.bool (((updL x wr v lf A k).getD (↑k : Int).toNat b0).col ((0 : Nat) + (0 : Nat)) == x)))), ((92 : Nat), AV.p true (PV.v (Value.bool wr)))] [((10 : Nat), Ob.box [AV.p true (PV.v (Value.slice none (0 : Nat) (0 : Nat))), AV.p true (PV.v (Value.slice none (0 : Nat) (0 : Nat)))]), ((15 : Nat), Ob.box [AV.p true (PV.v (Value.int IntKind.i64 o.a)), AV.p true (PV.v (Value.int IntKind.i64 o.v)), AV.p true (PV.v (Value.int IntKind.i64 o.l))]), ((1051 : Nat), Ob.row Mode.u true (1 : Nat) (3 : Nat) (PA l) []), ((14 : Nat), Ob.box [AV.own (1045 : Nat), AV.own (2045 : Nat)]), ((1045 : Nat), Ob.row Mode.u false (1 : Nat) T.length (BB T) []), ((2045 : Nat), Ob.row Mode.u false (3 : Nat) (updL x wr v lf A k).length (setG [((↑k : Int).toNat, (1 : Nat), PV.v (Value.int IntKind.i64 v))] (setG [((↑k : Int).toNat, (2 : Nat), PV.v (Value.int IntKind.i64 lf))] (SB (updL x wr v lf A k)))) [])])))) (VC.lend (I k) (St.mk [((1 : Nat), AV.p true (PV.v (Value.int IntKind.i64 x))), ((2 : Nat), AV.p true (PV.v (Value.bool wr))), ((3 : Nat), AV.p true (PV.v (Value.int IntKind.i64 v))), ((4 : Nat), AV.p true (PV.v (Value.int IntKind.i64 lf))), ((10 : Nat), AV.adr (10 : Nat) (0 : Nat)), ((11 : Nat), AV.p true (PV.v (Value.int IntKind.i64 (0 : Int)))), ((12 : Nat), AV.p true (PV.v (Value.slice none (0 : Nat) (0 : Nat)))), ((13 : Nat), AV.p true (PV.v (Value.bool false))), ((14 : Nat), AV.adr (14 : Nat) (0 : Nat)), ((15 : Nat), AV.adr (15 : Nat) (0 : Nat)), ((16 : Nat), AV.own (1051 : Nat)), ((74 : Nat), AV.p true (PV.v (Value.int IntKind.i64 (↑A.length : Int)))), ((75 : Nat), AV.p true (PV.v (Value.int IntKind.i64 (IntKind.i64.wrap ((↑k : Int) + (1 : Int)))))), ((76 : Nat), AV.p true (PV.v (Value.bool (decide ((↑k : Int) < (↑A.length : Int)))))), ((19 : Nat), AV.p true (PV.v (Value.int IntKind.i64 (↑k : Int)))), ((85 : Nat), AV.p true (PV.v (Value.bool (((updL x wr v lf A k).getD (↑k : Int).toNat b0).col ((0 : Nat) + (0 : Nat)) == x)))), ((92 : Nat), AV.p true (PV.v (Value.bool wr)))] [((10 : Nat), Ob.box [AV.p true (PV.v (Value.slice none (0 : Nat) (0 : Nat))), AV.p true (PV.v (Value.slice none (0 : Nat) (0 : Nat)))]), ((15 : Nat), Ob.box [AV.p true (PV.v (Value.int IntKind.i64 o.a)), AV.p true (PV.v (Value.int IntKind.i64 o.v)), AV.p true (PV.v (Value.int IntKind.i64 o.l))]), ((1051 : Nat), Ob.row Mode.u true (1 : Nat) (3 : Nat) (PA l) []), ((14 : Nat), Ob.box [AV.own (1045 : Nat), AV.own (2045 : Nat)]), ((1045 : Nat), Ob.row Mode.u false (1 : Nat) T.length (BB T) []), ((2045 : Nat), Ob.row Mode.u false (3 : Nat) (updL x wr v lf A k).length (setG [((↑k : Int).toNat, (2 : Nat), PV.v (Value.int IntKind.i64 lf))] (SB (updL x wr v lf A k))) [])]))))) (VC.lend (I k) (St.mk [((1 : Nat), AV.p true (PV.v (Value.int IntKind.i64 x))), ((2 : Nat), AV.p true (PV.v (Value.bool wr))), ((3 : Nat), AV.p true (PV.v (Value.int IntKind.i64 v))), ((4 : Nat), AV.p true (PV.v (Value.int IntKind.i64 lf))), ((10 : Nat), AV.adr (10 : Nat) (0 : Nat)), ((11 : Nat), AV.p true (PV.v (Value.int IntKind.i64 (0 : Int)))), ((12 : Nat), AV.p true (PV.v (Value.slice none (0 : Nat) (0 : Nat)))), ((13 : Nat), AV.p true (PV.v (Value.bool false))), ((14 : Nat), AV.adr (14 : Nat) (0 : Nat)), ((15 : Nat), AV.adr (15 : Nat) (0 : Nat)), ((16 : Nat), AV.own (1051 : Nat)), ((74 : Nat), AV.p true (PV.v (Value.int IntKind.i64 (↑A.length : Int)))), ((75 : Nat), AV.p true (PV.v (Value.int IntKind.i64 (IntKind.i64.wrap ((↑k : Int) + (1 : Int)))))), ((76 : Nat), AV.p true (PV.v (Value.bool (decide ((↑k : Int) < (↑A.length : Int)))))), ((19 : Nat), AV.p true (PV.v (Value.int IntKind.i64 (↑k : Int)))), ((85 : Nat), AV.p true (PV.v (Value.bool (((updL x wr v lf A k).getD (↑k : Int).toNat b0).col ((0 : Nat) + (0 : Nat)) == x))))] [((10 : Nat), Ob.box [AV.p true (PV.v (Value.slice none (0 : Nat) (0 : Nat))), AV.p true (PV.v (Value.slice none (0 : Nat) (0 : Nat)))]), ((15 : Nat), Ob.box [AV.p true (PV.v (Value.int IntKind.i64 o.a)), AV.p true (PV.v (Value.int IntKind.i64 o.v)), AV.p true (PV.v (Value.int IntKind.i64 o.l))]), ((1051 : Nat), Ob.row Mode.u true (1 : Nat) (3 : Nat) (PA l) []), ((14 : Nat), Ob.box [AV.own (1045 : Nat), AV.own (2045 : Nat)]), ((1045 : Nat), Ob.row Mode.u false (1 : Nat) T.length (BB T) []), ((2045 : Nat), Ob.row Mode.u false (3 : Nat) (updL x wr v lf A k).length (SB (updL x wr v lf A k)) [])]))))) (VC.loop ir68_L6 [Item.bend (4 : Nat), Item.ir ir68_T7] (St.mk [((1 : Nat), AV.p true (PV.v (Value.int IntKind.i64 x))), ((2 : Nat), AV.p true (PV.v (Value.bool wr))), ((3 : Nat), AV.p true (PV.v (Value.int IntKind.i64 v))), ((4 : Nat), AV.p true (PV.v (Value.int IntKind.i64 lf))), ((10 : Nat), AV.adr (10 : Nat) (0 : Nat)), ((11 : Nat), AV.p true (PV.v (Value.int IntKind.i64 (0 : Int)))), ((12 : Nat), AV.p true (PV.v (Value.slice none (0 : Nat) (0 : Nat)))), ((13 : Nat), AV.p true (PV.v (Value.bool false))), ((14 : Nat), AV.adr (14 : Nat) (0 : Nat)), ((15 : Nat), AV.adr (15 : Nat) (0 : Nat)), ((16 : Nat), AV.own (1051 : Nat)), ((74 : Nat), AV.p true (PV.v (Value.int IntKind.i64 (↑A.length : Int)))), ((75 : Nat), AV.p true (PV.v (Value.int IntKind.i64 (↑k : Int)))), ((76 : Nat), AV.p true (PV.v (Value.bool (decide ((↑k : Int) < (↑A.length : Int)))))), ((20 : Nat), AV.p true (PV.v (Value.int IntKind.i64 (IntKind.i64.wrap ((↑(3 : Nat) : Int) - (1 : Int))))))] [((10 : Nat), Ob.box [AV.p true (PV.v (Value.slice none (0 : Nat) (0 : Nat))), AV.p true (PV.v (Value.slice none (0 : Nat) (0 : Nat)))]), ((15 : Nat), Ob.box [AV.p true (PV.v (Value.int IntKind.i64 o.a)), AV.p true (PV.v (Value.int IntKind.i64 o.v)), AV.p true (PV.v (Value.int IntKind.i64 o.l))]), ((1051 : Nat), Ob.row Mode.u true (1 : Nat) (3 : Nat) (PA l) []), ((14 : Nat), Ob.box [AV.own (1045 : Nat), AV.own (2045 : Nat)]), ((1045 : Nat), Ob.row Mode.u false (1 : Nat) T.length (BB T) []), ((2045 : Nat), Ob.row Mode.u false (3 : Nat) (updL x wr v lf A k).length (SB (updL x wr v lf A k)) [])])) := by intros; kernel_rfl
def st_imU6 (x : Int) (wr : Bool) (v lf l : Int) (o : Blk) (T : List (List Blk)) (S : List Blk) (i : Nat) : St := ⟨[(1, AI x), (2, AB wr), (3, AI v), (4, AI lf), (10, .adr 10 0), (11, AI 0), (12, nilA), (13, AB false), (14, .adr 14 0), (15, .adr 15 0), (16, .own 1051), (20, AI (2 - (i : Int)))], [(10, nilB2), (15, .box [AI o.a, AI o.v, AI o.l]), (1051, .row .u true 1 3 (PA l) []), (14, .box [.own 1045, .own 2045]), (1045, .row .u false 1 (F3 l T S i).1.length (BB (F3 l T S i).1) []), (2045, .row .u false 3 (F3 l T S i).2.length (SB (F3 l T S i).2) [])]⟩
def r_imU6 (x : Int) (wr : Bool) (v lf l : Int) (o : Blk) (T : List (List Blk)) (S : List Blk) (I : Nat → St → Prop) (i : Nat) := (G0, res68, ([] : List (Nat × Ob)), [Item.ir ir68_L6, .lend (I i), Item.bend 4, Item.ir ir68_T7], st_imU6 x wr v lf l o T S i)
theorem evr_imU6 : ∀ (x : Int) (wr : Bool) (v lf l : Int) (o : Blk) (T : List (List Blk)) (S : List Blk) (I : Nat → St → Prop) (i : Nat), ev G0 res68 [] (3000 : Nat) (Or.nil.split (Or.call [] meR (meH (F3 l T S i).1 (F3 l T S i).2) Or.nil)) [Item.ir ir68_L6, Item.lend (I i), Item.bend (4 : Nat), Item.ir ir68_T7] (st_imU6 x wr v lf l o T S i) = VC.split (decide ((0 : Int) ≤ (2 : Int) - (↑i : Int))) (VC.need ((0 : Int) ≤ (2 : Int) - (↑i : Int) ∧ ((2 : Int) - (↑i : Int)).toNat < (3 : Nat)) (VC.need (((2 : Int) - (↑i : Int)).toNat < (3 : Nat)) (VC.loop ir68_L3 [Item.bend (6 : Nat), Item.ir ir68_T4, Item.bend (5 : Nat), Item.ir ir68_T5, Item.lend (I i), Item.bend (4 : Nat), Item.ir ir68_T7] (St.mk [((1 : Nat), AV.p true (PV.v (Value.int IntKind.i64 x))), ((2 : Nat), AV.p true (PV.v (Value.bool wr))), ((3 : Nat), AV.p true (PV.v (Value.int IntKind.i64 v))), ((4 : Nat), AV.p true (PV.v (Value.int IntKind.i64 lf))), ((10 : Nat), AV.adr (10 : Nat) (0 : Nat)), ((11 : Nat), AV.p true (PV.v (Value.int IntKind.i64 (0 : Int)))), ((12 : Nat), AV.p true (PV.v (Value.slice none (0 : Nat) (0 : Nat)))), ((13 : Nat), AV.p true (PV.v (Value.bool false))), ((14 : Nat), AV.adr (14 : Nat) (0 : Nat)), ((15 : Nat), AV.adr (15 : Nat) (0 : Nat)), ((16 : Nat), AV.own (1051 : Nat)), ((20 : Nat), AV.p true (PV.v (Value.int IntKind.i64 ((2 : Int) - (↑i : Int))))), ((104 : Nat), AV.p true (PV.v (Value.bool (decide ((0 : Int) ≤ (2 : Int) - (↑i : Int)))))), ((21 : Nat), AV.p true (PV.v (Value.int IntKind.i64 (litI [(0 : Int), (1 : Int) + l / (2 : Int), (3 : Int) + l] ((2 : Int) - (↑i : Int)).toNat)))), ((22 : Nat), AV.p true (PV.v (Value.slice none (0 : Nat) (0 : Nat)))), ((112 : Nat), AV.own (2045 : Nat)), ((113 : Nat), AV.p true (PV.v (Value.int IntKind.i64 (↑(F3 l T S i).2.length : Int)))), ((114 : Nat), AV.p true (PV.v (Value.int IntKind.i64 (0 : Int))))] [((10 : Nat), Ob.box [AV.p true (PV.v (Value.slice none (0 : Nat) (0 : Nat))), AV.p true (PV.v (Value.slice none (0 : Nat) (0 : Nat)))]), ((15 : Nat), Ob.box [AV.p true (PV.v (Value.int IntKind.i64 o.a)), AV.p true (PV.v (Value.int IntKind.i64 o.v)), AV.p true (PV.v (Value.int IntKind.i64 o.l))]), ((1051 : Nat), Ob.row Mode.u true (1 : Nat) (3 : Nat) (PA l) []), ((14 : Nat), Ob.box [AV.own (1045 : Nat), AV.own (2045 : Nat)]), ((1045 : Nat), Ob.row Mode.u false (1 : Nat) (F3 l T S i).1.length (BB (F3 l T S i).1) []), ((2045 : Nat), Ob.row Mode.u false (3 : Nat) (F3 l T S i).2.length (SB (F3 l T S i).2) [])])))) (VC.call (67 : Nat) [AV.ag [AV.p false (PV.sl false (1 : Nat) (F3 l T S i).1.length (BB (F3 l T S i).1)), AV.p false (PV.sl false (3 : Nat) (F3 l T S i).2.length (SB (F3 l T S i).2))]] [] meR (meH (F3 l T S i).1 (F3 l T S i).2) (VC.done (St.mk [((1 : Nat), AV.p true (PV.v (Value.int IntKind.i64 x))), ((2 : Nat), AV.p true (PV.v (Value.bool wr))), ((3 : Nat), AV.p true (PV.v (Value.int IntKind.i64 v))), ((4 : Nat), AV.p true (PV.v (Value.int IntKind.i64 lf))), ((10 : Nat), AV.adr (10 : Nat) (0 : Nat)), ((11 : Nat), AV.p true (PV.v (Value.int IntKind.i64 o.v))), ((12 : Nat), AV.own (1051 : Nat)), ((13 : Nat), AV.p true (PV.v (Value.bool true))), ((14 : Nat), AV.adr (14 : Nat) (0 : Nat)), ((15 : Nat), AV.adr (15 : Nat) (0 : Nat)), ((16 : Nat), AV.own (1051 : Nat)), ((20 : Nat), AV.p true (PV.v (Value.int IntKind.i64 ((2 : Int) - (↑i : Int))))), ((104 : Nat), AV.p true (PV.v (Value.bool (decide ((0 : Int) ≤ (2 : Int) - (↑i : Int))))))] [((10 : Nat), Ob.box [AV.own (1152 : Nat), AV.own (2152 : Nat)]), ((15 : Nat), Ob.box [AV.p true (PV.v (Value.int IntKind.i64 o.a)), AV.p true (PV.v (Value.int IntKind.i64 o.v)), AV.p true (PV.v (Value.int IntKind.i64 o.l))]), ((1051 : Nat), Ob.row Mode.u true (1 : Nat) (3 : Nat) (PA l) []), ((14 : Nat), Ob.box [AV.own (1045 : Nat), AV.own (2045 : Nat)]), ((1045 : Nat), Ob.row Mode.u false (1 : Nat) (F3 l T S i).1.length (BB (F3 l T S i).1) []), ((2045 : Nat), Ob.row Mode.u false (3 : Nat) (F3 l T S i).2.length (SB (F3 l T S i).2) []), ((1152 : Nat), Ob.row Mode.u false (1 : Nat) (F3 l T S i).1.length (BB (F3 l T S i).1) []), ((2152 : Nat), Ob.row Mode.u false (3 : Nat) (F3 l T S i).2.length (SB (F3 l T S i).2) [])]))) := by intros; kernel_rfl
def st_imU3 (x : Int) (wr : Bool) (v lf l : Int) (o : Blk) (i : Nat) (T : List (List Blk)) (L B R : List Blk) (j : Nat) : St := ⟨[(1, AI x), (2, AB wr), (3, AI v), (4, AI lf), (10, .adr 10 0), (11, AI 0), (12, nilA), (13, AB false), (14, .adr 14 0), (15, .adr 15 0), (16, .own 1051), (20, AI (2 - (i : Int))), (21, AI (litI (pathL l) (2 - i))), (22, .own 22), (112, .own 2045), (113, AI L.length), (114, AI j)], [(10, nilB2), (15, .box [AI o.a, AI o.v, AI o.l]), (1051, .row .u true 1 3 (PA l) []), (14, .box [.own 1045, .own 2045]), (1045, .row .u false 1 (T.set (pth l (2 - i)) B).length (BB (T.set (pth l (2 - i)) B)) []), (2045, .row .u false 3 L.length (SB L) []), (22, .row .u false 3 R.length (SB R) [])]⟩
def r_imU3 (x : Int) (wr : Bool) (v lf l : Int) (o : Blk) (i : Nat) (T : List (List Blk)) (L B R : List Blk) (I : Nat → St → Prop) (J : Nat → St → Prop) (j : Nat) := (G0, res68, ([] : List (Nat × Ob)), [Item.ir ir68_L3, .lend (J j), Item.bend 6, Item.ir ir68_T4, Item.bend 5, Item.ir ir68_T5, .lend (I i), Item.bend 4, Item.ir ir68_T7], st_imU3 x wr v lf l o i T L B R j)
theorem evr_imU3 : ∀ (x : Int) (wr : Bool) (v lf l : Int) (o : Blk) (i : Nat) (T : List (List Blk)) (L B R : List Blk) (I J : Nat → St → Prop) (j : Nat), ev G0 res68 [] (3000 : Nat) (((Or.call [] (AV.own (0 : Nat)) [((0 : Nat), Ob.row Mode.u true (1 : Nat) (3 : Nat) (PA ((L.getD (↑j : Int).toNat b0).col ((0 : Nat) + ((0 : Nat) + (1 : Nat) + (1 : Nat))))) [])] (Or.call [] (AB (onB ((L.getD (↑j : Int).toNat b0).col ((0 : Nat) + ((0 : Nat) + (1 : Nat) + (1 : Nat)))) (litI [(0 : Int), (1 : Int) + l / (2 : Int), (3 : Int) + l] ((2 : Nat) - i)))) [] ((Or.stop (0 : Nat)).split Or.nil).lit).lit.lit).lit.lit.split Or.nil.lit.lit.lit.lit.lit.lit).split Or.nil) [Item.ir ir68_L3, Item.lend (J j), Item.bend (6 : Nat), Item.ir ir68_T4, Item.bend (5 : Nat), Item.ir ir68_T5, Item.lend (I i), Item.bend (4 : Nat), Item.ir ir68_T7] (st_imU3 x wr v lf l o i T L B R j) = VC.split (decide ((↑j : Int) < (↑L.length : Int))) (VC.need ((0 : Int) ≤ (↑j : Int) ∧ (↑j : Int).toNat < L.length) (VC.need ((↑j : Int).toNat < L.length) (VC.need ((0 : Int) ≤ litI [(0 : Int), (1 : Int) + l / (2 : Int), (3 : Int) + l] ((2 : Nat) - i) ∧ (litI [(0 : Int), (1 : Int) + l / (2 : Int), (3 : Int) + l] ((2 : Nat) - i)).toNat < (T.set (pth l ((2 : Nat) - i)) B).length) (VC.need ((litI [(0 : Int), (1 : Int) + l / (2 : Int), (3 : Int) + l] ((2 : Nat) - i)).toNat < (T.set (pth l ((2 : Nat) - i)) B).length) (VC.split (decide ((↑((T.set (pth l ((2 : Nat) - i)) B).getD (litI [(0 : Int), (1 : Int) + l / (2 : Int), (3 : Int) + l] ((2 : Nat) - i)).toNat []).length : Int) < (2 : Int))) (VC.call (62 : Nat) [AV.p true (PV.v (Value.int IntKind.i64 ((L.getD (↑j : Int).toNat b0).col ((0 : Nat) + ((0 : Nat) + (1 : Nat) + (1 : Nat))))))] [] (AV.own (0 : Nat)) [((0 : Nat), Ob.row Mode.u true (1 : Nat) (3 : Nat) (PA ((L.getD (↑j : Int).toNat b0).col ((0 : Nat) + ((0 : Nat) + (1 : Nat) + (1 : Nat))))) [])] (VC.call (136 : Nat) [AV.p false (PV.sl true (1 : Nat) (3 : Nat) (PA ((L.getD (↑j : Int).toNat b0).col ((0 : Nat) + ((0 : Nat) + (1 : Nat) + (1 : Nat)))))), AV.p true (PV.v (Value.int IntKind.i64 (litI [(0 : Int), (1 : Int) + l / (2 : Int), (3 : Int) + l] ((2 : Nat) - i))))] [] (AB (onB ((L.getD (↑j : Int).toNat b0).col ((0 : Nat) + ((0 : Nat) + (1 : Nat) + (1 : Nat)))) (litI [(0 : Int), (1 : Int) + l / (2 : Int), (3 : Int) + l] ((2 : Nat) - i)))) [] (VC.split (onB ((L.getD (↑j : Int).toNat b0).col ((0 : Nat) + ((0 : Nat) + (1 : Nat) + (1 : Nat)))) (litI [(0 : Int), (1 : Int) + l / (2 : Int), (3 : Int) + l] ((2 : Nat) - i))) (VC.stop [Item.ir ir68_C1, Item.bend (7 : Nat), Item.ir ir68_D1, Item.lend (J j), Item.bend (6 : Nat), Item.ir ir68_T4, Item.bend (5 : Nat), Item.ir ir68_T5, Item.lend (I i), Item.bend (4 : Nat), Item.ir ir68_T7] (St.mk [((1 : Nat), AV.p true (PV.v (Value.int IntKind.i64 x))), ((2 : Nat), AV.p true (PV.v (Value.bool wr))), ((3 : Nat), AV.p true (PV.v (Value.int IntKind.i64 v))), ((4 : Nat), AV.p true (PV.v (Value.int IntKind.i64 lf))), ((10 : Nat), AV.adr (10 : Nat) (0 : Nat)), ((11 : Nat), AV.p true (PV.v (Value.int IntKind.i64 (0 : Int)))), ((12 : Nat), AV.p true (PV.v (Value.slice none (0 : Nat) (0 : Nat)))), ((13 : Nat), AV.p true (PV.v (Value.bool false))), ((14 : Nat), AV.adr (14 : Nat) (0 : Nat)), ((15 : Nat), AV.adr (15 : Nat) (0 : Nat)), ((16 : Nat), AV.own (1051 : Nat)), ((20 : Nat), AV.p true (PV.v (Value.int IntKind.i64 ((2 : Int) - (↑i : Int))))), ((21 : Nat), AV.p true (PV.v (Value.int IntKind.i64 (litI [(0 : Int), (1 : Int) + l / (2 : Int), (3 : Int) + l] ((2 : Nat) - i))))), ((22 : Nat), AV.own (22 : Nat)), ((112 : Nat), AV.own (2045 : Nat)), ((113 : Nat), AV.p true (PV.v (Value.int IntKind.i64 (↑L.length : Int)))), ((114 : Nat), AV.p true (PV.v (Value.int IntKind.i64 (↑j : Int)))), ((115 : Nat), AV.p true (PV.v (Value.bool (decide ((↑j : Int) < (↑L.length : Int)))))), ((24 : Nat), AV.adr (24 : Nat) (0 : Nat)), ((131 : Nat), AV.p true (PV.v (Value.bool (onB ((L.getD (↑j : Int).toNat b0).col ((0 : Nat) + ((0 : Nat) + (1 : Nat) + (1 : Nat)))) (litI [(0 : Int), (1 : Int) + l / (2 : Int), (3 : Int) + l] ((2 : Nat) - i))))))] [((10 : Nat), Ob.box [AV.p true (PV.v (Value.slice none (0 : Nat) (0 : Nat))), AV.p true (PV.v (Value.slice none (0 : Nat) (0 : Nat)))]), ((15 : Nat), Ob.box [AV.p true (PV.v (Value.int IntKind.i64 o.a)), AV.p true (PV.v (Value.int IntKind.i64 o.v)), AV.p true (PV.v (Value.int IntKind.i64 o.l))]), ((1051 : Nat), Ob.row Mode.u true (1 : Nat) (3 : Nat) (PA l) []), ((14 : Nat), Ob.box [AV.own (1045 : Nat), AV.own (2045 : Nat)]), ((1045 : Nat), Ob.row Mode.u false (1 : Nat) (T.set (pth l ((2 : Nat) - i)) B).length (cellSet (BB (T.set (pth l ((2 : Nat) - i)) B)) (litI [(0 : Int), (1 : Int) + l / (2 : Int), (3 : Int) + l] ((2 : Nat) - i)).toNat (nat_lit 0) (PV.sl false (3 : Nat) ((T.set (pth l ((2 : Nat) - i)) B).getD (litI [(0 : Int), (1 : Int) + l / (2 : Int), (3 : Int) + l] ((2 : Nat) - i)).toNat []).length (SB ((T.set (pth l ((2 : Nat) - i)) B).getD (litI [(0 : Int), (1 : Int) + l / (2 : Int), (3 : Int) + l] ((2 : Nat) - i)).toNat [])))) []), ((2045 : Nat), Ob.row Mode.u false (3 : Nat) L.length (SB L) []), ((22 : Nat), Ob.row Mode.u false (3 : Nat) R.length (SB R) []), ((24 : Nat), Ob.box [AV.p true (PV.v (Value.int IntKind.i64 ((L.getD (↑j : Int).toNat b0).col ((0 : Nat) + (0 : Nat))))), AV.p true (PV.v (Value.int IntKind.i64 ((L.getD (↑j : Int).toNat b0).col ((0 : Nat) + ((0 : Nat) + (1 : Nat)))))), AV.p true (PV.v (Value.int IntKind.i64 ((L.getD (↑j : Int).toNat b0).col ((0 : Nat) + ((0 : Nat) + (1 : Nat) + (1 : Nat))))))])])) (VC.need (((R.length + (1 : Nat)) * (24 : Nat) ≤ (140737488355328 : Nat) ∧ (↑(R.length + (1 : Nat)) : Int) ≤ (9223372036854775807 : Int)) ∧ allV (3 : Nat) (1 : Nat) (setG [((0 : Nat), (0 : Nat), PV.v (Value.int IntKind.i64 ((L.getD (↑j : Int).toNat b0).col ((0 : Nat) + (0 : Nat))))), ((0 : Nat), (1 : Nat), PV.v (Value.int IntKind.i64 ((L.getD (↑j : Int).toNat b0).col ((0 : Nat) + ((0 : Nat) + (1 : Nat)))))), ((0 : Nat), (2 : Nat), PV.v (Value.int IntKind.i64 ((L.getD (↑j : Int).toNat b0).col ((0 : Nat) + ((0 : Nat) + (1 : Nat) + (1 : Nat))))))] fun (x_1 j_1 : Nat) => PV.v ([Value.int IntKind.i64 (0 : Int), Value.int IntKind.i64 (0 : Int), Value.int IntKind.i64 (0 : Int)].getD j_1 undef))) (VC.lend (J j) (St.mk [((1 : Nat), AV.p true (PV.v (Value.int IntKind.i64 x))), ((2 : Nat), AV.p true (PV.v (Value.bool wr))), ((3 : Nat), AV.p true (PV.v (Value.int IntKind.i64 v))), ((4 : Nat), AV.p true (PV.v (Value.int IntKind.i64 lf))), ((10 : Nat), AV.adr (10 : Nat) (0 : Nat)), ((11 : Nat), AV.p true (PV.v (Value.int IntKind.i64 (0 : Int)))), ((12 : Nat), AV.p true (PV.v (Value.slice none (0 : Nat) (0 : Nat)))), ((13 : Nat), AV.p true (PV.v (Value.bool false))), ((14 : Nat), AV.adr (14 : Nat) (0 : Nat)), ((15 : Nat), AV.adr (15 : Nat) (0 : Nat)), ((16 : Nat), AV.own (1051 : Nat)), ((20 : Nat), AV.p true (PV.v (Value.int IntKind.i64 ((2 : Int) - (↑i : Int))))), ((21 : Nat), AV.p true (PV.v (Value.int IntKind.i64 (litI [(0 : Int), (1 : Int) + l / (2 : Int), (3 : Int) + l] ((2 : Nat) - i))))), ((22 : Nat), AV.own (147 : Nat)), ((112 : Nat), AV.own (2045 : Nat)), ((113 : Nat), AV.p true (PV.v (Value.int IntKind.i64 (↑L.length : Int)))), ((114 : Nat), AV.p true (PV.v (Value.int IntKind.i64 (IntKind.i64.wrap ((↑j : Int) + (1 : Int)))))), ((115 : Nat), AV.p true (PV.v (Value.bool (decide ((↑j : Int) < (↑L.length : Int)))))), ((24 : Nat), AV.adr (24 : Nat) (0 : Nat)), ((131 : Nat), AV.p true (PV.v (Value.bool (onB ((L.getD (↑j : Int).toNat b0).col ((0 : Nat) + ((0 : Nat) + (1 : Nat) + (1 : Nat)))) (litI [(0 : Int), (1 : Int) + l / (2 : Int), (3 : Int) + l] ((2 : Nat) - i))))))] [((10 : Nat), Ob.box [AV.p true (PV.v (Value.slice none (0 : Nat) (0 : Nat))), AV.p true (PV.v (Value.slice none (0 : Nat) (0 : Nat)))]), ((15 : Nat), Ob.box [AV.p true (PV.v (Value.int IntKind.i64 o.a)), AV.p true (PV.v (Value.int IntKind.i64 o.v)), AV.p true (PV.v (Value.int IntKind.i64 o.l))]), ((1051 : Nat), Ob.row Mode.u true (1 : Nat) (3 : Nat) (PA l) []), ((14 : Nat), Ob.box [AV.own (1045 : Nat), AV.own (2045 : Nat)]), ((1045 : Nat), Ob.row Mode.u false (1 : Nat) (T.set (pth l ((2 : Nat) - i)) B).length (cellSet (BB (T.set (pth l ((2 : Nat) - i)) B)) (litI [(0 : Int), (1 : Int) + l / (2 : Int), (3 : Int) + l] ((2 : Nat) - i)).toNat (nat_lit 0) (PV.sl false (3 : Nat) ((T.set (pth l ((2 : Nat) - i)) B).getD (litI [(0 : Int), (1 : Int) + l / (2 : Int), (3 : Int) + l] ((2 : Nat) - i)).toNat []).length (SB ((T.set (pth l ((2 : Nat) - i)) B).getD (litI [(0 : Int), (1 : Int) + l / (2 : Int), (3 : Int) + l] ((2 : Nat) - i)).toNat [])))) []), ((2045 : Nat), Ob.row Mode.u false (3 : Nat) L.length (SB L) []), ((24 : Nat), Ob.box [AV.p true (PV.v (Value.int IntKind.i64 ((L.getD (↑j : Int).toNat b0).col ((0 : Nat) + (0 : Nat))))), AV.p true (PV.v (Value.int IntKind.i64 ((L.getD (↑j : Int).toNat b0).col ((0 : Nat) + ((0 : Nat) + (1 : Nat)))))), AV.p true (PV.v (Value.int IntKind.i64 ((L.getD (↑j : Int).toNat b0).col ((0 : Nat) + ((0 : Nat) + (1 : Nat) + (1 : Nat))))))]), ((147 : Nat), Ob.row Mode.u false (3 : Nat) (R.length + (1 : Nat)) (fun (a b : Nat) => if a < R.length then SB R a b else setG [((0 : Nat), (0 : Nat), PV.v (Value.int IntKind.i64 ((L.getD (↑j : Int).toNat b0).col ((0 : Nat) + (0 : Nat))))), ((0 : Nat), (1 : Nat), PV.v (Value.int IntKind.i64 ((L.getD (↑j : Int).toNat b0).col ((0 : Nat) + ((0 : Nat) + (1 : Nat)))))), ((0 : Nat), (2 : Nat), PV.v (Value.int IntKind.i64 ((L.getD (↑j : Int).toNat b0).col ((0 : Nat) + ((0 : Nat) + (1 : Nat) + (1 : Nat))))))] (fun (x_1 j_1 : Nat) => PV.v ([Value.int IntKind.i64 (0 : Int), Value.int IntKind.i64 (0 : Int), Value.int IntKind.i64 (0 : Int)].getD j_1 undef)) (a - R.length) b) [])])))))) (VC.need (((R.length + (1 : Nat)) * (24 : Nat) ≤ (140737488355328 : Nat) ∧ (↑(R.length + (1 : Nat)) : Int) ≤ (9223372036854775807 : Int)) ∧ allV (3 : Nat) (1 : Nat) (setG [((0 : Nat), (0 : Nat), PV.v (Value.int IntKind.i64 ((L.getD (↑j : Int).toNat b0).col ((0 : Nat) + (0 : Nat))))), ((0 : Nat), (1 : Nat), PV.v (Value.int IntKind.i64 ((L.getD (↑j : Int).toNat b0).col ((0 : Nat) + ((0 : Nat) + (1 : Nat)))))), ((0 : Nat), (2 : Nat), PV.v (Value.int IntKind.i64 ((L.getD (↑j : Int).toNat b0).col ((0 : Nat) + ((0 : Nat) + (1 : Nat) + (1 : Nat))))))] fun (x_1 j_1 : Nat) => PV.v ([Value.int IntKind.i64 (0 : Int), Value.int IntKind.i64 (0 : Int), Value.int IntKind.i64 (0 : Int)].getD j_1 undef))) (VC.lend (J j) (St.mk [((1 : Nat), AV.p true (PV.v (Value.int IntKind.i64 x))), ((2 : Nat), AV.p true (PV.v (Value.bool wr))), ((3 : Nat), AV.p true (PV.v (Value.int IntKind.i64 v))), ((4 : Nat), AV.p true (PV.v (Value.int IntKind.i64 lf))), ((10 : Nat), AV.adr (10 : Nat) (0 : Nat)), ((11 : Nat), AV.p true (PV.v (Value.int IntKind.i64 (0 : Int)))), ((12 : Nat), AV.p true (PV.v (Value.slice none (0 : Nat) (0 : Nat)))), ((13 : Nat), AV.p true (PV.v (Value.bool false))), ((14 : Nat), AV.adr (14 : Nat) (0 : Nat)), ((15 : Nat), AV.adr (15 : Nat) (0 : Nat)), ((16 : Nat), AV.own (1051 : Nat)), ((20 : Nat), AV.p true (PV.v (Value.int IntKind.i64 ((2 : Int) - (↑i : Int))))), ((21 : Nat), AV.p true (PV.v (Value.int IntKind.i64 (litI [(0 : Int), (1 : Int) + l / (2 : Int), (3 : Int) + l] ((2 : Nat) - i))))), ((22 : Nat), AV.own (147 : Nat)), ((112 : Nat), AV.own (2045 : Nat)), ((113 : Nat), AV.p true (PV.v (Value.int IntKind.i64 (↑L.length : Int)))), ((114 : Nat), AV.p true (PV.v (Value.int IntKind.i64 (IntKind.i64.wrap ((↑j : Int) + (1 : Int)))))), ((115 : Nat), AV.p true (PV.v (Value.bool (decide ((↑j : Int) < (↑L.length : Int)))))), ((24 : Nat), AV.adr (24 : Nat) (0 : Nat)), ((131 : Nat), AV.p true (PV.v (Value.bool false)))] [((10 : Nat), Ob.box [AV.p true (PV.v (Value.slice none (0 : Nat) (0 : Nat))), AV.p true (PV.v (Value.slice none (0 : Nat) (0 : Nat)))]), ((15 : Nat), Ob.box [AV.p true (PV.v (Value.int IntKind.i64 o.a)), AV.p true (PV.v (Value.int IntKind.i64 o.v)), AV.p true (PV.v (Value.int IntKind.i64 o.l))]), ((1051 : Nat), Ob.row Mode.u true (1 : Nat) (3 : Nat) (PA l) []), ((14 : Nat), Ob.box [AV.own (1045 : Nat), AV.own (2045 : Nat)]), ((1045 : Nat), Ob.row Mode.u false (1 : Nat) (T.set (pth l ((2 : Nat) - i)) B).length (cellSet (BB (T.set (pth l ((2 : Nat) - i)) B)) (litI [(0 : Int), (1 : Int) + l / (2 : Int), (3 : Int) + l] ((2 : Nat) - i)).toNat (nat_lit 0) (PV.sl false (3 : Nat) ((T.set (pth l ((2 : Nat) - i)) B).getD (litI [(0 : Int), (1 : Int) + l / (2 : Int), (3 : Int) + l] ((2 : Nat) - i)).toNat []).length (SB ((T.set (pth l ((2 : Nat) - i)) B).getD (litI [(0 : Int), (1 : Int) + l / (2 : Int), (3 : Int) + l] ((2 : Nat) - i)).toNat [])))) []), ((2045 : Nat), Ob.row Mode.u false (3 : Nat) L.length (SB L) []), ((24 : Nat), Ob.box [AV.p true (PV.v (Value.int IntKind.i64 ((L.getD (↑j : Int).toNat b0).col ((0 : Nat) + (0 : Nat))))), AV.p true (PV.v (Value.int IntKind.i64 ((L.getD (↑j : Int).toNat b0).col ((0 : Nat) + ((0 : Nat) + (1 : Nat)))))), AV.p true (PV.v (Value.int IntKind.i64 ((L.getD (↑j : Int).toNat b0).col ((0 : Nat) + ((0 : Nat) + (1 : Nat) + (1 : Nat))))))]), ((147 : Nat), Ob.row Mode.u false (3 : Nat) (R.length + (1 : Nat)) (fun (a b : Nat) => if a < R.length then SB R a b else setG [((0 : Nat), (0 : Nat), PV.v (Value.int IntKind.i64 ((L.getD (↑j : Int).toNat b0).col ((0 : Nat) + (0 : Nat))))), ((0 : Nat), (1 : Nat), PV.v (Value.int IntKind.i64 ((L.getD (↑j : Int).toNat b0).col ((0 : Nat) + ((0 : Nat) + (1 : Nat)))))), ((0 : Nat), (2 : Nat), PV.v (Value.int IntKind.i64 ((L.getD (↑j : Int).toNat b0).col ((0 : Nat) + ((0 : Nat) + (1 : Nat) + (1 : Nat))))))] (fun (x_1 j_1 : Nat) => PV.v ([Value.int IntKind.i64 (0 : Int), Value.int IntKind.i64 (0 : Int), Value.int IntKind.i64 (0 : Int)].getD j_1 undef)) (a - R.length) b) [])])))))))) (VC.lend (I i) (St.mk [((1 : Nat), AV.p true (PV.v (Value.int IntKind.i64 x))), ((2 : Nat), AV.p true (PV.v (Value.bool wr))), ((3 : Nat), AV.p true (PV.v (Value.int IntKind.i64 v))), ((4 : Nat), AV.p true (PV.v (Value.int IntKind.i64 lf))), ((10 : Nat), AV.adr (10 : Nat) (0 : Nat)), ((11 : Nat), AV.p true (PV.v (Value.int IntKind.i64 (0 : Int)))), ((12 : Nat), AV.p true (PV.v (Value.slice none (0 : Nat) (0 : Nat)))), ((13 : Nat), AV.p true (PV.v (Value.bool false))), ((14 : Nat), AV.adr (14 : Nat) (0 : Nat)), ((15 : Nat), AV.adr (15 : Nat) (0 : Nat)), ((16 : Nat), AV.own (1051 : Nat)), ((20 : Nat), AV.p true (PV.v (Value.int IntKind.i64 (IntKind.i64.wrap ((2 : Int) - (↑i : Int) - (1 : Int)))))), ((21 : Nat), AV.p true (PV.v (Value.int IntKind.i64 (litI [(0 : Int), (1 : Int) + l / (2 : Int), (3 : Int) + l] ((2 : Nat) - i))))), ((22 : Nat), AV.own (22 : Nat)), ((112 : Nat), AV.own (2045 : Nat)), ((113 : Nat), AV.p true (PV.v (Value.int IntKind.i64 (↑L.length : Int)))), ((114 : Nat), AV.p true (PV.v (Value.int IntKind.i64 (↑j : Int)))), ((115 : Nat), AV.p true (PV.v (Value.bool (decide ((↑j : Int) < (↑L.length : Int))))))] [((10 : Nat), Ob.box [AV.p true (PV.v (Value.slice none (0 : Nat) (0 : Nat))), AV.p true (PV.v (Value.slice none (0 : Nat) (0 : Nat)))]), ((15 : Nat), Ob.box [AV.p true (PV.v (Value.int IntKind.i64 o.a)), AV.p true (PV.v (Value.int IntKind.i64 o.v)), AV.p true (PV.v (Value.int IntKind.i64 o.l))]), ((1051 : Nat), Ob.row Mode.u true (1 : Nat) (3 : Nat) (PA l) []), ((14 : Nat), Ob.box [AV.own (1045 : Nat), AV.own (22 : Nat)]), ((1045 : Nat), Ob.row Mode.u false (1 : Nat) (T.set (pth l ((2 : Nat) - i)) B).length (BB (T.set (pth l ((2 : Nat) - i)) B)) []), ((2045 : Nat), Ob.row Mode.u false (3 : Nat) L.length (SB L) []), ((22 : Nat), Ob.row Mode.u false (3 : Nat) R.length (SB R) [])])) := by intros; kernel_rfl
def st_imUC (x : Int) (wr : Bool) (v lf l : Int) (o : Blk) (i : Nat) (T : List (List Blk)) (L B R : List Blk) (j : Nat) : St := ⟨[(1, AI x), (2, AB wr), (3, AI v), (4, AI lf), (10, .adr 10 0), (11, AI 0), (12, nilA), (13, AB false), (14, .adr 14 0), (15, .adr 15 0), (16, .own 1051), (20, AI (2 - (i : Int))), (21, AI (litI (pathL l) (2 - i))), (22, .own 22), (112, .own 2045), (113, AI L.length), (114, AI j), (24, .adr 24 0)], [(10, nilB2), (15, .box [AI o.a, AI o.v, AI o.l]), (1051, .row .u true 1 3 (PA l) []), (14, .box [.own 1045, .own 2045]), (1045, .row .u false 1 (T.set (pth l (2 - i)) B).length (BB (T.set (pth l (2 - i)) B)) []), (2045, .row .u false 3 L.length (SB L) []), (22, .row .u false 3 R.length (SB R) []), (24, .box [AI (L.getD j b0).a, AI (L.getD j b0).v, AI (L.getD j b0).l])]⟩
def r_imUC (x : Int) (wr : Bool) (v lf l : Int) (o : Blk) (i : Nat) (T : List (List Blk)) (L B R : List Blk) (I : Nat → St → Prop) (J : Nat → St → Prop) (j : Nat) := (G0, res68, ([] : List (Nat × Ob)), [Item.ir ir68_C1, Item.bend 7, Item.ir ir68_D1, .lend (J j), Item.bend 6, Item.ir ir68_T4, Item.bend 5, Item.ir ir68_T5, .lend (I i), Item.bend 4, Item.ir ir68_T7], st_imUC x wr v lf l o i T L B R j)
theorem evr_imUC : ∀ (x : Int) (wr : Bool) (v lf l : Int) (o : Blk) (i : Nat) (T : List (List Blk)) (L B R : List Blk) (I J : Nat → St → Prop) (j : Nat), ev G0 res68 [] (3000 : Nat) Or.nil [Item.ir ir68_C1, Item.bend (7 : Nat), Item.ir ir68_D1, Item.lend (J j), Item.bend (6 : Nat), Item.ir ir68_T4, Item.bend (5 : Nat), Item.ir ir68_T5, Item.lend (I i), Item.bend (4 : Nat), Item.ir ir68_T7] (st_imUC x wr v lf l o i T L B R j) = VC.need ((0 : Int) ≤ litI [(0 : Int), (1 : Int) + l / (2 : Int), (3 : Int) + l] ((2 : Nat) - i) ∧ (litI [(0 : Int), (1 : Int) + l / (2 : Int), (3 : Int) + l] ((2 : Nat) - i)).toNat < (T.set (pth l ((2 : Nat) - i)) B).length) (VC.need ((litI [(0 : Int), (1 : Int) + l / (2 : Int), (3 : Int) + l] ((2 : Nat) - i)).toNat < (T.set (pth l ((2 : Nat) - i)) B).length) (VC.need (((((T.set (pth l ((2 : Nat) - i)) B).getD (litI [(0 : Int), (1 : Int) + l / (2 : Int), (3 : Int) + l] ((2 : Nat) - i)).toNat []).length + (1 : Nat)) * (24 : Nat) ≤ (140737488355328 : Nat) ∧ (↑(((T.set (pth l ((2 : Nat) - i)) B).getD (litI [(0 : Int), (1 : Int) + l / (2 : Int), (3 : Int) + l] ((2 : Nat) - i)).toNat []).length + (1 : Nat)) : Int) ≤ (9223372036854775807 : Int)) ∧ allV (3 : Nat) (1 : Nat) (setG [((0 : Nat), (0 : Nat), PV.v (Value.int IntKind.i64 (L.getD j b0).a)), ((0 : Nat), (1 : Nat), PV.v (Value.int IntKind.i64 (L.getD j b0).v)), ((0 : Nat), (2 : Nat), PV.v (Value.int IntKind.i64 (L.getD j b0).l))] fun (x_1 j_1 : Nat) => PV.v ([Value.int IntKind.i64 (0 : Int), Value.int IntKind.i64 (0 : Int), Value.int IntKind.i64 (0 : Int)].getD j_1 undef))) (VC.need ((0 : Int) ≤ litI [(0 : Int), (1 : Int) + l / (2 : Int), (3 : Int) + l] ((2 : Nat) - i) ∧ (litI [(0 : Int), (1 : Int) + l / (2 : Int), (3 : Int) + l] ((2 : Nat) - i)).toNat < (T.set (pth l ((2 : Nat) - i)) B).length) (VC.need ((litI [(0 : Int), (1 : Int) + l / (2 : Int), (3 : Int) + l] ((2 : Nat) - i)).toNat < (T.set (pth l ((2 : Nat) - i)) B).length ∧ (litI [(0 : Int), (1 : Int) + l / (2 : Int), (3 : Int) + l] ((2 : Nat) - i)).toNat = ((litI [(0 : Int), (1 : Int) + l / (2 : Int), (3 : Int) + l] ((2 : Nat) - i)).toNat, (0 : Nat), (1139 : Nat)).fst) (VC.lend (J j) (St.mk [((1 : Nat), AV.p true (PV.v (Value.int IntKind.i64 x))), ((2 : Nat), AV.p true (PV.v (Value.bool wr))), ((3 : Nat), AV.p true (PV.v (Value.int IntKind.i64 v))), ((4 : Nat), AV.p true (PV.v (Value.int IntKind.i64 lf))), ((10 : Nat), AV.adr (10 : Nat) (0 : Nat)), ((11 : Nat), AV.p true (PV.v (Value.int IntKind.i64 (0 : Int)))), ((12 : Nat), AV.p true (PV.v (Value.slice none (0 : Nat) (0 : Nat)))), ((13 : Nat), AV.p true (PV.v (Value.bool false))), ((14 : Nat), AV.adr (14 : Nat) (0 : Nat)), ((15 : Nat), AV.adr (15 : Nat) (0 : Nat)), ((16 : Nat), AV.own (1051 : Nat)), ((20 : Nat), AV.p true (PV.v (Value.int IntKind.i64 ((2 : Int) - (↑i : Int))))), ((21 : Nat), AV.p true (PV.v (Value.int IntKind.i64 (litI [(0 : Int), (1 : Int) + l / (2 : Int), (3 : Int) + l] ((2 : Nat) - i))))), ((22 : Nat), AV.own (22 : Nat)), ((112 : Nat), AV.own (2045 : Nat)), ((113 : Nat), AV.p true (PV.v (Value.int IntKind.i64 (↑L.length : Int)))), ((114 : Nat), AV.p true (PV.v (Value.int IntKind.i64 (IntKind.i64.wrap ((↑j : Int) + (1 : Int)))))), ((24 : Nat), AV.adr (24 : Nat) (0 : Nat))] [((10 : Nat), Ob.box [AV.p true (PV.v (Value.slice none (0 : Nat) (0 : Nat))), AV.p true (PV.v (Value.slice none (0 : Nat) (0 : Nat)))]), ((15 : Nat), Ob.box [AV.p true (PV.v (Value.int IntKind.i64 o.a)), AV.p true (PV.v (Value.int IntKind.i64 o.v)), AV.p true (PV.v (Value.int IntKind.i64 o.l))]), ((1051 : Nat), Ob.row Mode.u true (1 : Nat) (3 : Nat) (PA l) []), ((14 : Nat), Ob.box [AV.own (1045 : Nat), AV.own (2045 : Nat)]), ((1045 : Nat), Ob.row Mode.u false (1 : Nat) (T.set (pth l ((2 : Nat) - i)) B).length (setG [((litI [(0 : Int), (1 : Int) + l / (2 : Int), (3 : Int) + l] ((2 : Nat) - i)).toNat, (0 : Nat), PV.sl false (3 : Nat) (((T.set (pth l ((2 : Nat) - i)) B).getD (litI [(0 : Int), (1 : Int) + l / (2 : Int), (3 : Int) + l] ((2 : Nat) - i)).toNat []).length + (1 : Nat)) fun (a b : Nat) => if a < ((T.set (pth l ((2 : Nat) - i)) B).getD (litI [(0 : Int), (1 : Int) + l / (2 : Int), (3 : Int) + l] ((2 : Nat) - i)).toNat []).length then SB ((T.set (pth l ((2 : Nat) - i)) B).getD (litI [(0 : Int), (1 : Int) + l / (2 : Int), (3 : Int) + l] ((2 : Nat) - i)).toNat []) a b else setG [((0 : Nat), (0 : Nat), PV.v (Value.int IntKind.i64 (L.getD j b0).a)), ((0 : Nat), (1 : Nat), PV.v (Value.int IntKind.i64 (L.getD j b0).v)), ((0 : Nat), (2 : Nat), PV.v (Value.int IntKind.i64 (L.getD j b0).l))] (fun (x_1 j_1 : Nat) => PV.v ([Value.int IntKind.i64 (0 : Int), Value.int IntKind.i64 (0 : Int), Value.int IntKind.i64 (0 : Int)].getD j_1 undef)) (a - ((T.set (pth l ((2 : Nat) - i)) B).getD (litI [(0 : Int), (1 : Int) + l / (2 : Int), (3 : Int) + l] ((2 : Nat) - i)).toNat []).length) b)] (BB (T.set (pth l ((2 : Nat) - i)) B))) []), ((2045 : Nat), Ob.row Mode.u false (3 : Nat) L.length (SB L) []), ((22 : Nat), Ob.row Mode.u false (3 : Nat) R.length (SB R) []), ((24 : Nat), Ob.box [AV.p true (PV.v (Value.int IntKind.i64 (L.getD j b0).a)), AV.p true (PV.v (Value.int IntKind.i64 (L.getD j b0).v)), AV.p true (PV.v (Value.int IntKind.i64 (L.getD j b0).l))])])))))) := by intros; kernel_rfl
theorem c_sPath3 (x : Int) (hx : 0 ≤ x ∧ x ≤ 3) : PObj Tryd.prog G0 66 [AI x] [] (.own 0) [(0, .row .u true 1 3 (PA x) [])] := by
  have h := c_sPath x
  have e : paN x = 3 := by unfold paN; rw [inB_iff.2 hx]; rfl
  rwa [e] at h
def in_spU (T : List (List Blk)) (S : List Blk) (x : Int) (wr : Bool) (v lf : Int) := (G0, res181, ([] : List (Nat × Ob)), [Item.ir ir181], start [ME T S, AI x, AB wr, AI v, AI lf] [])
theorem ev_spU : ∀ (T : List (List Blk)) (S : List Blk) (x : Int) (wr : Bool) (v lf : Int), ev G0 res181 [] (3000 : Nat) (Or.call [] (AI (leafM T S x)) [] (Or.nil.lit.lit.lit.lit.lit.lit.lit.lit.split (Or.call [] (AB (inB v (-100000 : Int) (100000 : Int))) [] (Or.nil.lit.lit.lit.lit.split (Or.call [] (AB (inB lf (0 : Int) (3 : Int))) [] (Or.nil.split (Or.call [] (AV.own (0 : Nat)) [((0 : Nat), Ob.row Mode.u true (1 : Nat) (3 : Nat) (PA (leafM T S x)) [])] (Or.call [] meR (meH T S) Or.nil))).lit.lit).lit).lit.lit).lit)) [Item.ir ir181] (start [ME T S, AI x, AB wr, AI v, AI lf] []) = VC.call (65 : Nat) [AV.ag [AV.p false (PV.sl false (1 : Nat) T.length (BB T)), AV.p false (PV.sl false (3 : Nat) S.length (SB S))], AV.p true (PV.v (Value.int IntKind.i64 x))] [] (AI (leafM T S x)) [] (VC.split (decide (leafM T S x < (0 : Int))) (VC.done (St.mk [((0 : Nat), AV.ag [AV.p false (PV.sl false (1 : Nat) T.length (BB T)), AV.p false (PV.sl false (3 : Nat) S.length (SB S))]), ((1 : Nat), AV.p true (PV.v (Value.int IntKind.i64 x))), ((2 : Nat), AV.p true (PV.v (Value.bool wr))), ((3 : Nat), AV.p true (PV.v (Value.int IntKind.i64 v))), ((4 : Nat), AV.p true (PV.v (Value.int IntKind.i64 lf))), ((5 : Nat), AV.adr (5 : Nat) (0 : Nat)), ((10 : Nat), AV.adr (10 : Nat) (0 : Nat)), ((11 : Nat), AV.p true (PV.v (Value.int IntKind.i64 (0 : Int)))), ((12 : Nat), AV.own (39 : Nat)), ((13 : Nat), AV.p true (PV.v (Value.bool false))), ((14 : Nat), AV.p true (PV.v (Value.int IntKind.i64 (leafM T S x)))), ((37 : Nat), AV.p true (PV.v (Value.bool true)))] [((5 : Nat), Ob.box [AV.p false (PV.sl false (1 : Nat) T.length (BB T)), AV.p false (PV.sl false (3 : Nat) S.length (SB S))]), ((10 : Nat), Ob.box [AV.p true (PV.v (Value.slice none (0 : Nat) (0 : Nat))), AV.p true (PV.v (Value.slice none (0 : Nat) (0 : Nat)))]), ((39 : Nat), Ob.row Mode.u true (1 : Nat) (0 : Nat) (setG [] fun (x_1 j : Nat) => PV.v ([Value.int IntKind.i64 (0 : Int)].getD j undef)) [])])) (VC.call (64 : Nat) [AV.p true (PV.v (Value.int IntKind.i64 v)), AV.p true (PV.v (Value.int IntKind.i64 (-100000 : Int))), AV.p true (PV.v (Value.int IntKind.i64 (100000 : Int)))] [] (AB (inB v (-100000 : Int) (100000 : Int))) [] (VC.split (!inB v (-100000 : Int) (100000 : Int)) (VC.done (St.mk [((0 : Nat), AV.ag [AV.p false (PV.sl false (1 : Nat) T.length (BB T)), AV.p false (PV.sl false (3 : Nat) S.length (SB S))]), ((1 : Nat), AV.p true (PV.v (Value.int IntKind.i64 x))), ((2 : Nat), AV.p true (PV.v (Value.bool wr))), ((3 : Nat), AV.p true (PV.v (Value.int IntKind.i64 v))), ((4 : Nat), AV.p true (PV.v (Value.int IntKind.i64 lf))), ((5 : Nat), AV.adr (5 : Nat) (0 : Nat)), ((10 : Nat), AV.adr (10 : Nat) (0 : Nat)), ((11 : Nat), AV.p true (PV.v (Value.int IntKind.i64 (0 : Int)))), ((12 : Nat), AV.own (39 : Nat)), ((13 : Nat), AV.p true (PV.v (Value.bool false))), ((14 : Nat), AV.p true (PV.v (Value.int IntKind.i64 (leafM T S x)))), ((37 : Nat), AV.p true (PV.v (Value.bool true)))] [((5 : Nat), Ob.box [AV.p false (PV.sl false (1 : Nat) T.length (BB T)), AV.p false (PV.sl false (3 : Nat) S.length (SB S))]), ((10 : Nat), Ob.box [AV.p true (PV.v (Value.slice none (0 : Nat) (0 : Nat))), AV.p true (PV.v (Value.slice none (0 : Nat) (0 : Nat)))]), ((39 : Nat), Ob.row Mode.u true (1 : Nat) (0 : Nat) (setG [] fun (x_1 j : Nat) => PV.v ([Value.int IntKind.i64 (0 : Int)].getD j undef)) [])])) (VC.call (64 : Nat) [AV.p true (PV.v (Value.int IntKind.i64 lf)), AV.p true (PV.v (Value.int IntKind.i64 (0 : Int))), AV.p true (PV.v (Value.int IntKind.i64 (3 : Int)))] [] (AB (inB lf (0 : Int) (3 : Int))) [] (VC.split (!inB lf (0 : Int) (3 : Int)) (VC.done (St.mk [((0 : Nat), AV.ag [AV.p false (PV.sl false (1 : Nat) T.length (BB T)), AV.p false (PV.sl false (3 : Nat) S.length (SB S))]), ((1 : Nat), AV.p true (PV.v (Value.int IntKind.i64 x))), ((2 : Nat), AV.p true (PV.v (Value.bool wr))), ((3 : Nat), AV.p true (PV.v (Value.int IntKind.i64 v))), ((4 : Nat), AV.p true (PV.v (Value.int IntKind.i64 lf))), ((5 : Nat), AV.adr (5 : Nat) (0 : Nat)), ((10 : Nat), AV.adr (10 : Nat) (0 : Nat)), ((11 : Nat), AV.p true (PV.v (Value.int IntKind.i64 (0 : Int)))), ((12 : Nat), AV.own (39 : Nat)), ((13 : Nat), AV.p true (PV.v (Value.bool false))), ((14 : Nat), AV.p true (PV.v (Value.int IntKind.i64 (leafM T S x)))), ((37 : Nat), AV.p true (PV.v (Value.bool !inB lf (0 : Int) (3 : Int))))] [((5 : Nat), Ob.box [AV.p false (PV.sl false (1 : Nat) T.length (BB T)), AV.p false (PV.sl false (3 : Nat) S.length (SB S))]), ((10 : Nat), Ob.box [AV.p true (PV.v (Value.slice none (0 : Nat) (0 : Nat))), AV.p true (PV.v (Value.slice none (0 : Nat) (0 : Nat)))]), ((39 : Nat), Ob.row Mode.u true (1 : Nat) (0 : Nat) (setG [] fun (x_1 j : Nat) => PV.v ([Value.int IntKind.i64 (0 : Int)].getD j undef)) [])])) (VC.call (66 : Nat) [AV.p true (PV.v (Value.int IntKind.i64 (leafM T S x)))] [] (AV.own (0 : Nat)) [((0 : Nat), Ob.row Mode.u true (1 : Nat) (3 : Nat) (PA (leafM T S x)) [])] (VC.call (180 : Nat) [AV.ag [AV.p false (PV.sl false (1 : Nat) T.length (BB T)), AV.p false (PV.sl false (3 : Nat) S.length (SB S))]] [] meR (meH T S) (VC.loop ir181_L1 [Item.bend (0 : Nat), Item.ir ir181_T9] (St.mk [((0 : Nat), AV.ag [AV.p false (PV.sl false (1 : Nat) T.length (BB T)), AV.p false (PV.sl false (3 : Nat) S.length (SB S))]), ((1 : Nat), AV.p true (PV.v (Value.int IntKind.i64 x))), ((2 : Nat), AV.p true (PV.v (Value.bool wr))), ((3 : Nat), AV.p true (PV.v (Value.int IntKind.i64 v))), ((4 : Nat), AV.p true (PV.v (Value.int IntKind.i64 lf))), ((5 : Nat), AV.adr (5 : Nat) (0 : Nat)), ((10 : Nat), AV.adr (10 : Nat) (0 : Nat)), ((11 : Nat), AV.p true (PV.v (Value.int IntKind.i64 (0 : Int)))), ((12 : Nat), AV.p true (PV.v (Value.slice none (0 : Nat) (0 : Nat)))), ((13 : Nat), AV.p true (PV.v (Value.bool false))), ((14 : Nat), AV.p true (PV.v (Value.int IntKind.i64 (leafM T S x)))), ((37 : Nat), AV.p true (PV.v (Value.bool !inB lf (0 : Int) (3 : Int)))), ((15 : Nat), AV.own (1041 : Nat)), ((16 : Nat), AV.adr (16 : Nat) (0 : Nat)), ((17 : Nat), AV.p true (PV.v (Value.int IntKind.i64 (0 : Int))))] [((5 : Nat), Ob.box [AV.p false (PV.sl false (1 : Nat) T.length (BB T)), AV.p false (PV.sl false (3 : Nat) S.length (SB S))]), ((10 : Nat), Ob.box [AV.p true (PV.v (Value.slice none (0 : Nat) (0 : Nat))), AV.p true (PV.v (Value.slice none (0 : Nat) (0 : Nat)))]), ((1041 : Nat), Ob.row Mode.u true (1 : Nat) (3 : Nat) (PA (leafM T S x)) []), ((1043 : Nat), Ob.row Mode.u false (1 : Nat) T.length (BB T) []), ((2043 : Nat), Ob.row Mode.u false (3 : Nat) S.length (SB S) []), ((16 : Nat), Ob.box [AV.own (1043 : Nat), AV.own (2043 : Nat)])]))))))))) := by intros; kernel_rfl
def st_spU1 (x : Int) (wr : Bool) (v lf l : Int) (T : List (List Blk)) (S : List Blk) (k : Nat) : St := ⟨[(1, AI x), (2, AB wr), (3, AI v), (4, AI lf), (10, .adr 10 0), (11, AI 0), (12, nilA), (13, AB false), (15, .own 1041), (16, .adr 16 0), (17, AI k)], [(10, nilB2), (1041, .row .u true 1 3 (PA l) []), (16, .box [.own 1043, .own 2043]), (1043, .row .u false 1 (T1 T l k).length (BB (T1 T l k)) []), (2043, .row .u false 3 (S1 T S l k).length (SB (S1 T S l k)) [])]⟩
def r_spU1 (x : Int) (wr : Bool) (v lf l : Int) (T : List (List Blk)) (S : List Blk) (I : Nat → St → Prop) (k : Nat) := (G0, res181, ([] : List (Nat × Ob)), [Item.ir ir181_L1, .lend (I k), Item.bend 0, Item.ir ir181_T9], st_spU1 x wr v lf l T S k)
theorem evr_spU1 : ∀ (x : Int) (wr : Bool) (v lf l : Int) (T : List (List Blk)) (S : List Blk) (I : Nat → St → Prop) (k : Nat), ev G0 res181 [] (3000 : Nat) (Or.nil.split Or.nil) [Item.ir ir181_L1, Item.lend (I k), Item.bend (0 : Nat), Item.ir ir181_T9] (st_spU1 x wr v lf l T S k) = VC.split (decide ((↑k : Int) < (↑(3 : Nat) : Int))) (VC.need ((0 : Int) ≤ (↑k : Int) ∧ (↑k : Int).toNat < (3 : Nat)) (VC.need ((↑k : Int).toNat < (3 : Nat)) (VC.need ((0 : Int) ≤ litI [(0 : Int), (1 : Int) + l / (2 : Int), (3 : Int) + l] (↑k : Int).toNat ∧ (litI [(0 : Int), (1 : Int) + l / (2 : Int), (3 : Int) + l] (↑k : Int).toNat).toNat < (T1 T l k).length) (VC.need ((litI [(0 : Int), (1 : Int) + l / (2 : Int), (3 : Int) + l] (↑k : Int).toNat).toNat < (T1 T l k).length) (VC.need ((((S1 T S l k).length + ((T1 T l k).getD (litI [(0 : Int), (1 : Int) + l / (2 : Int), (3 : Int) + l] (↑k : Int).toNat).toNat []).length) * (24 : Nat) ≤ (140737488355328 : Nat) ∧ (↑((S1 T S l k).length + ((T1 T l k).getD (litI [(0 : Int), (1 : Int) + l / (2 : Int), (3 : Int) + l] (↑k : Int).toNat).toNat []).length) : Int) ≤ (9223372036854775807 : Int)) ∧ allV (3 : Nat) ((T1 T l k).getD (litI [(0 : Int), (1 : Int) + l / (2 : Int), (3 : Int) + l] (↑k : Int).toNat).toNat []).length (SB ((T1 T l k).getD (litI [(0 : Int), (1 : Int) + l / (2 : Int), (3 : Int) + l] (↑k : Int).toNat).toNat []))) (VC.need ((0 : Int) ≤ (↑k : Int) ∧ (↑k : Int).toNat < (3 : Nat)) (VC.need ((↑k : Int).toNat < (3 : Nat)) (VC.need ((0 : Int) ≤ litI [(0 : Int), (1 : Int) + l / (2 : Int), (3 : Int) + l] (↑k : Int).toNat ∧ (litI [(0 : Int), (1 : Int) + l / (2 : Int), (3 : Int) + l] (↑k : Int).toNat).toNat < (T1 T l k).length) (VC.need ((litI [(0 : Int), (1 : Int) + l / (2 : Int), (3 : Int) + l] (↑k : Int).toNat).toNat < (T1 T l k).length) (VC.lend (I k) (St.mk [((1 : Nat), AV.p true (PV.v (Value.int IntKind.i64 x))), ((2 : Nat), AV.p true (PV.v (Value.bool wr))), ((3 : Nat), AV.p true (PV.v (Value.int IntKind.i64 v))), ((4 : Nat), AV.p true (PV.v (Value.int IntKind.i64 lf))), ((10 : Nat), AV.adr (10 : Nat) (0 : Nat)), ((11 : Nat), AV.p true (PV.v (Value.int IntKind.i64 (0 : Int)))), ((12 : Nat), AV.p true (PV.v (Value.slice none (0 : Nat) (0 : Nat)))), ((13 : Nat), AV.p true (PV.v (Value.bool false))), ((15 : Nat), AV.own (1041 : Nat)), ((16 : Nat), AV.adr (16 : Nat) (0 : Nat)), ((17 : Nat), AV.p true (PV.v (Value.int IntKind.i64 (IntKind.i64.wrap ((↑k : Int) + (1 : Int)))))), ((47 : Nat), AV.p true (PV.v (Value.bool (decide ((↑k : Int) < (↑(3 : Nat) : Int))))))] [((10 : Nat), Ob.box [AV.p true (PV.v (Value.slice none (0 : Nat) (0 : Nat))), AV.p true (PV.v (Value.slice none (0 : Nat) (0 : Nat)))]), ((1041 : Nat), Ob.row Mode.u true (1 : Nat) (3 : Nat) (PA l) []), ((16 : Nat), Ob.box [AV.own (1043 : Nat), AV.own (60 : Nat)]), ((1043 : Nat), Ob.row Mode.u false (1 : Nat) (T1 T l k).length (setG [((litI [(0 : Int), (1 : Int) + l / (2 : Int), (3 : Int) + l] (↑k : Int).toNat).toNat, (0 : Nat), PV.sl true (3 : Nat) (0 : Nat) (setG [] fun (x_1 j : Nat) => PV.v ([Value.int IntKind.i64 (0 : Int), Value.int IntKind.i64 (0 : Int), Value.int IntKind.i64 (0 : Int)].getD j undef)))] (cellSet (BB (T1 T l k)) (litI [(0 : Int), (1 : Int) + l / (2 : Int), (3 : Int) + l] (↑k : Int).toNat).toNat (nat_lit 0) (PV.sl false (3 : Nat) ((T1 T l k).getD (litI [(0 : Int), (1 : Int) + l / (2 : Int), (3 : Int) + l] (↑k : Int).toNat).toNat []).length (SB ((T1 T l k).getD (litI [(0 : Int), (1 : Int) + l / (2 : Int), (3 : Int) + l] (↑k : Int).toNat).toNat []))))) []), ((60 : Nat), Ob.row Mode.u false (3 : Nat) ((S1 T S l k).length + ((T1 T l k).getD (litI [(0 : Int), (1 : Int) + l / (2 : Int), (3 : Int) + l] (↑k : Int).toNat).toNat []).length) (fun (a b : Nat) => if a < (S1 T S l k).length then SB (S1 T S l k) a b else SB ((T1 T l k).getD (litI [(0 : Int), (1 : Int) + l / (2 : Int), (3 : Int) + l] (↑k : Int).toNat).toNat []) (a - (S1 T S l k).length) b) [])]))))))))))) (VC.loop ir181_L2 [Item.bend (2 : Nat), Item.ir ir181_T8] (St.mk [((1 : Nat), AV.p true (PV.v (Value.int IntKind.i64 x))), ((2 : Nat), AV.p true (PV.v (Value.bool wr))), ((3 : Nat), AV.p true (PV.v (Value.int IntKind.i64 v))), ((4 : Nat), AV.p true (PV.v (Value.int IntKind.i64 lf))), ((10 : Nat), AV.adr (10 : Nat) (0 : Nat)), ((11 : Nat), AV.p true (PV.v (Value.int IntKind.i64 (0 : Int)))), ((12 : Nat), AV.p true (PV.v (Value.slice none (0 : Nat) (0 : Nat)))), ((13 : Nat), AV.p true (PV.v (Value.bool false))), ((15 : Nat), AV.own (1041 : Nat)), ((16 : Nat), AV.adr (16 : Nat) (0 : Nat)), ((17 : Nat), AV.p true (PV.v (Value.int IntKind.i64 (↑k : Int)))), ((47 : Nat), AV.p true (PV.v (Value.bool (decide ((↑k : Int) < (↑(3 : Nat) : Int)))))), ((18 : Nat), AV.p true (PV.v (Value.int IntKind.i64 (0 : Int)))), ((19 : Nat), AV.p true (PV.v (Value.int IntKind.i64 (0 : Int))))] [((10 : Nat), Ob.box [AV.p true (PV.v (Value.slice none (0 : Nat) (0 : Nat))), AV.p true (PV.v (Value.slice none (0 : Nat) (0 : Nat)))]), ((1041 : Nat), Ob.row Mode.u true (1 : Nat) (3 : Nat) (PA l) []), ((16 : Nat), Ob.box [AV.own (1043 : Nat), AV.own (2043 : Nat)]), ((1043 : Nat), Ob.row Mode.u false (1 : Nat) (T1 T l k).length (BB (T1 T l k)) []), ((2043 : Nat), Ob.row Mode.u false (3 : Nat) (S1 T S l k).length (SB (S1 T S l k)) [])])) := by intros; kernel_rfl
def st_spU2 (x : Int) (wr : Bool) (v lf l : Int) (T : List (List Blk)) (A : List Blk) (k : Nat) : St := ⟨[(1, AI x), (2, AB wr), (3, AI v), (4, AI lf), (10, .adr 10 0), (11, AI 0), (12, nilA), (13, AB false), (15, .own 1041), (16, .adr 16 0), (18, AI (hadK x A k)), (19, AI k)], [(10, nilB2), (1041, .row .u true 1 3 (PA l) []), (16, .box [.own 1043, .own 2043]), (1043, .row .u false 1 T.length (BB T) []), (2043, .row .u false 3 (updL x wr v lf A k).length (SB (updL x wr v lf A k)) [])]⟩
def r_spU2 (x : Int) (wr : Bool) (v lf l : Int) (T : List (List Blk)) (A : List Blk) (I : Nat → St → Prop) (k : Nat) := (G0, res181, ([] : List (Nat × Ob)), [Item.ir ir181_L2, .lend (I k), Item.bend 2, Item.ir ir181_T8], st_spU2 x wr v lf l T A k)
theorem evr_spU2 : ∀ (x : Int) (wr : Bool) (v lf l : Int) (T : List (List Blk)) (A : List Blk) (I : Nat → St → Prop) (k : Nat), ev G0 res181 [] (3000 : Nat) (((Or.nil.split Or.nil).split Or.nil).split Or.nil) [Item.ir ir181_L2, Item.lend (I k), Item.bend (2 : Nat), Item.ir ir181_T8] (st_spU2 x wr v lf l T A k) = VC.split (decide ((↑k : Int) < (↑(updL x wr v lf A k).length : Int))) (VC.need ((0 : Int) ≤ (↑k : Int) ∧ (↑k : Int).toNat < (updL x wr v lf A k).length) (VC.need ((↑k : Int).toNat < (updL x wr v lf A k).length) (VC.split (((updL x wr v lf A k).getD (↑k : Int).toNat b0).col ((0 : Nat) + (0 : Nat)) == x) (VC.need ((0 : Int) ≤ (↑k : Int) ∧ (↑k : Int).toNat < (updL x wr v lf A k).length) (VC.need ((↑k : Int).toNat < (updL x wr v lf A k).length) (VC.need ((0 : Int) ≤ (↑k : Int) ∧ (↑k : Int).toNat < (updL x wr v lf A k).length) (VC.need ((↑k : Int).toNat < (updL x wr v lf A k).length) (VC.split wr (VC.need ((0 : Int) ≤ (↑k : Int) ∧ (↑k : Int).toNat < (updL x wr v lf A k).length) (VC.need ((↑k : Int).toNat < (updL x wr v lf A k).length) (VC.lend (I k) (St.mk [((1 : Nat), AV.p true (PV.v (Value.int IntKind.i64 x))), ((2 : Nat), AV.p true (PV.v (Value.bool wr))), ((3 : Nat), AV.p true (PV.v (Value.int IntKind.i64 v))), ((4 : Nat), AV.p true (PV.v (Value.int IntKind.i64 lf))), ((10 : Nat), AV.adr (10 : Nat) (0 : Nat)), ((11 : Nat), AV.p true (PV.v (Value.int IntKind.i64 (0 : Int)))), ((12 : Nat), AV.p true (PV.v (Value.slice none (0 : Nat) (0 : Nat)))), ((13 : Nat), AV.p true (PV.v (Value.bool false))), ((15 : Nat), AV.own (1041 : Nat)), ((16 : Nat), AV.adr (16 : Nat) (0 : Nat)), ((18 : Nat), AV.p true (PV.v (Value.int IntKind.i64 (((updL x wr v lf A k).getD (↑k : Int).toNat b0).col ((1 : Nat) + (0 : Nat)))))), ((19 : Nat), AV.p true (PV.v (Value.int IntKind.i64 (IntKind.i64.wrap ((↑k : Int) + (1 : Int)))))), ((74 : Nat), AV.p true (PV.v (Value.bool (decide ((↑k : Int) < (↑(updL x wr v lf A k).length : Int)))))), ((84 : Nat), AV.p true (PV.v (Value.bool (((updL x wr v lf A k).getD (↑k : Int).toNat b0).col ((0 : Nat) + (0 : Nat)) == x)))), ((97 : Nat), AV.p true (PV.v (Value.bool wr)))] [((10 : Nat), Ob.box [AV.p true (PV.v (Value.slice none (0 : Nat) (0 : Nat))), AV.p true (PV.v (Value.slice none (0 : Nat) (0 : Nat)))]), ((1041 : Nat), Ob.row Mode.u true (1 : Nat) (3 : Nat) (PA l) []), ((16 : Nat), Ob.box [AV.own (1043 : Nat), AV.own (2043 : Nat)]), ((1043 : Nat), Ob.row Mode.u false (1 : Nat) T.length (BB T) []), ((2043 : Nat), Ob.row Mode.u false (3 : Nat) (updL x wr v lf A k).length (setG [((↑k : Int).toNat, (1 : Nat), PV.v (Value.int IntKind.i64 v))] (setG [((↑k : Int).toNat, (2 : Nat), PV.v (Value.int IntKind.i64 lf))] (SB (updL x wr v lf A k)))) [])])))) (VC.lend (I k) (St.mk [((1 : Nat), AV.p true (PV.v (Value.int IntKind.i64 x))), ((2 : Nat), AV.p true (PV.v (Value.bool wr))), ((3 : Nat), AV.p true (PV.v (Value.int IntKind.i64 v))), ((4 : Nat), AV.p true (PV.v (Value.int IntKind.i64 lf))), ((10 : Nat), AV.adr (10 : Nat) (0 : Nat)), ((11 : Nat), AV.p true (PV.v (Value.int IntKind.i64 (0 : Int)))), ((12 : Nat), AV.p true (PV.v (Value.slice none (0 : Nat) (0 : Nat)))), ((13 : Nat), AV.p true (PV.v (Value.bool false))), ((15 : Nat), AV.own (1041 : Nat)), ((16 : Nat), AV.adr (16 : Nat) (0 : Nat)), ((18 : Nat), AV.p true (PV.v (Value.int IntKind.i64 (((updL x wr v lf A k).getD (↑k : Int).toNat b0).col ((1 : Nat) + (0 : Nat)))))), ((19 : Nat), AV.p true (PV.v (Value.int IntKind.i64 (IntKind.i64.wrap ((↑k : Int) + (1 : Int)))))), ((74 : Nat), AV.p true (PV.v (Value.bool (decide ((↑k : Int) < (↑(updL x wr v lf A k).length : Int)))))), ((84 : Nat), AV.p true (PV.v (Value.bool (((updL x wr v lf A k).getD (↑k : Int).toNat b0).col ((0 : Nat) + (0 : Nat)) == x)))), ((97 : Nat), AV.p true (PV.v (Value.bool wr)))] [((10 : Nat), Ob.box [AV.p true (PV.v (Value.slice none (0 : Nat) (0 : Nat))), AV.p true (PV.v (Value.slice none (0 : Nat) (0 : Nat)))]), ((1041 : Nat), Ob.row Mode.u true (1 : Nat) (3 : Nat) (PA l) []), ((16 : Nat), Ob.box [AV.own (1043 : Nat), AV.own (2043 : Nat)]), ((1043 : Nat), Ob.row Mode.u false (1 : Nat) T.length (BB T) []), ((2043 : Nat), Ob.row Mode.u false (3 : Nat) (updL x wr v lf A k).length (setG [((↑k : Int).toNat, (2 : Nat), PV.v (Value.int IntKind.i64 lf))] (SB (updL x wr v lf A k))) [])]))))))) (VC.lend (I k) (St.mk [((1 : Nat), AV.p true (PV.v (Value.int IntKind.i64 x))), ((2 : Nat), AV.p true (PV.v (Value.bool wr))), ((3 : Nat), AV.p true (PV.v (Value.int IntKind.i64 v))), ((4 : Nat), AV.p true (PV.v (Value.int IntKind.i64 lf))), ((10 : Nat), AV.adr (10 : Nat) (0 : Nat)), ((11 : Nat), AV.p true (PV.v (Value.int IntKind.i64 (0 : Int)))), ((12 : Nat), AV.p true (PV.v (Value.slice none (0 : Nat) (0 : Nat)))), ((13 : Nat), AV.p true (PV.v (Value.bool false))), ((15 : Nat), AV.own (1041 : Nat)), ((16 : Nat), AV.adr (16 : Nat) (0 : Nat)), ((18 : Nat), AV.p true (PV.v (Value.int IntKind.i64 (hadK x A k)))), ((19 : Nat), AV.p true (PV.v (Value.int IntKind.i64 (IntKind.i64.wrap ((↑k : Int) + (1 : Int)))))), ((74 : Nat), AV.p true (PV.v (Value.bool (decide ((↑k : Int) < (↑(updL x wr v lf A k).length : Int)))))), ((84 : Nat), AV.p true (PV.v (Value.bool (((updL x wr v lf A k).getD (↑k : Int).toNat b0).col ((0 : Nat) + (0 : Nat)) == x))))] [((10 : Nat), Ob.box [AV.p true (PV.v (Value.slice none (0 : Nat) (0 : Nat))), AV.p true (PV.v (Value.slice none (0 : Nat) (0 : Nat)))]), ((1041 : Nat), Ob.row Mode.u true (1 : Nat) (3 : Nat) (PA l) []), ((16 : Nat), Ob.box [AV.own (1043 : Nat), AV.own (2043 : Nat)]), ((1043 : Nat), Ob.row Mode.u false (1 : Nat) T.length (BB T) []), ((2043 : Nat), Ob.row Mode.u false (3 : Nat) (updL x wr v lf A k).length (SB (updL x wr v lf A k)) [])]))))) (VC.loop ir181_L6 [Item.bend (4 : Nat), Item.ir ir181_T7] (St.mk [((1 : Nat), AV.p true (PV.v (Value.int IntKind.i64 x))), ((2 : Nat), AV.p true (PV.v (Value.bool wr))), ((3 : Nat), AV.p true (PV.v (Value.int IntKind.i64 v))), ((4 : Nat), AV.p true (PV.v (Value.int IntKind.i64 lf))), ((10 : Nat), AV.adr (10 : Nat) (0 : Nat)), ((11 : Nat), AV.p true (PV.v (Value.int IntKind.i64 (0 : Int)))), ((12 : Nat), AV.p true (PV.v (Value.slice none (0 : Nat) (0 : Nat)))), ((13 : Nat), AV.p true (PV.v (Value.bool false))), ((15 : Nat), AV.own (1041 : Nat)), ((16 : Nat), AV.adr (16 : Nat) (0 : Nat)), ((18 : Nat), AV.p true (PV.v (Value.int IntKind.i64 (hadK x A k)))), ((19 : Nat), AV.p true (PV.v (Value.int IntKind.i64 (↑k : Int)))), ((74 : Nat), AV.p true (PV.v (Value.bool (decide ((↑k : Int) < (↑(updL x wr v lf A k).length : Int)))))), ((20 : Nat), AV.p true (PV.v (Value.int IntKind.i64 (IntKind.i64.wrap ((↑(3 : Nat) : Int) - (1 : Int))))))] [((10 : Nat), Ob.box [AV.p true (PV.v (Value.slice none (0 : Nat) (0 : Nat))), AV.p true (PV.v (Value.slice none (0 : Nat) (0 : Nat)))]), ((1041 : Nat), Ob.row Mode.u true (1 : Nat) (3 : Nat) (PA l) []), ((16 : Nat), Ob.box [AV.own (1043 : Nat), AV.own (2043 : Nat)]), ((1043 : Nat), Ob.row Mode.u false (1 : Nat) T.length (BB T) []), ((2043 : Nat), Ob.row Mode.u false (3 : Nat) (updL x wr v lf A k).length (SB (updL x wr v lf A k)) [])])) := by intros; kernel_rfl
def st_spU6 (x : Int) (wr : Bool) (v lf l : Int) (hd : Int) (T : List (List Blk)) (S : List Blk) (i : Nat) : St := ⟨[(1, AI x), (2, AB wr), (3, AI v), (4, AI lf), (10, .adr 10 0), (11, AI 0), (12, nilA), (13, AB false), (15, .own 1041), (16, .adr 16 0), (18, AI hd), (20, AI (2 - (i : Int)))], [(10, nilB2), (1041, .row .u true 1 3 (PA l) []), (16, .box [.own 1043, .own 2043]), (1043, .row .u false 1 (F3 l T S i).1.length (BB (F3 l T S i).1) []), (2043, .row .u false 3 (F3 l T S i).2.length (SB (F3 l T S i).2) [])]⟩
def r_spU6 (x : Int) (wr : Bool) (v lf l : Int) (hd : Int) (T : List (List Blk)) (S : List Blk) (I : Nat → St → Prop) (i : Nat) := (G0, res181, ([] : List (Nat × Ob)), [Item.ir ir181_L6, .lend (I i), Item.bend 4, Item.ir ir181_T7], st_spU6 x wr v lf l hd T S i)
theorem evr_spU6 : ∀ (x : Int) (wr : Bool) (v lf l hd : Int) (T : List (List Blk)) (S : List Blk) (I : Nat → St → Prop) (i : Nat), ev G0 res181 [] (3000 : Nat) (Or.nil.split Or.nil) [Item.ir ir181_L6, Item.lend (I i), Item.bend (4 : Nat), Item.ir ir181_T7] (st_spU6 x wr v lf l hd T S i) = VC.split (decide ((0 : Int) ≤ (2 : Int) - (↑i : Int))) (VC.loop ir181_L3 [Item.bend (6 : Nat), Item.ir ir181_T4, Item.bend (5 : Nat), Item.ir ir181_T5, Item.lend (I i), Item.bend (4 : Nat), Item.ir ir181_T7] (St.mk [((1 : Nat), AV.p true (PV.v (Value.int IntKind.i64 x))), ((2 : Nat), AV.p true (PV.v (Value.bool wr))), ((3 : Nat), AV.p true (PV.v (Value.int IntKind.i64 v))), ((4 : Nat), AV.p true (PV.v (Value.int IntKind.i64 lf))), ((10 : Nat), AV.adr (10 : Nat) (0 : Nat)), ((11 : Nat), AV.p true (PV.v (Value.int IntKind.i64 (0 : Int)))), ((12 : Nat), AV.p true (PV.v (Value.slice none (0 : Nat) (0 : Nat)))), ((13 : Nat), AV.p true (PV.v (Value.bool false))), ((15 : Nat), AV.own (1041 : Nat)), ((16 : Nat), AV.adr (16 : Nat) (0 : Nat)), ((18 : Nat), AV.p true (PV.v (Value.int IntKind.i64 hd))), ((20 : Nat), AV.p true (PV.v (Value.int IntKind.i64 ((2 : Int) - (↑i : Int))))), ((108 : Nat), AV.p true (PV.v (Value.bool (decide ((0 : Int) ≤ (2 : Int) - (↑i : Int)))))), ((21 : Nat), AV.own (111 : Nat)), ((22 : Nat), AV.p true (PV.v (Value.int IntKind.i64 (0 : Int))))] [((10 : Nat), Ob.box [AV.p true (PV.v (Value.slice none (0 : Nat) (0 : Nat))), AV.p true (PV.v (Value.slice none (0 : Nat) (0 : Nat)))]), ((1041 : Nat), Ob.row Mode.u true (1 : Nat) (3 : Nat) (PA l) []), ((16 : Nat), Ob.box [AV.own (1043 : Nat), AV.own (2043 : Nat)]), ((1043 : Nat), Ob.row Mode.u false (1 : Nat) (F3 l T S i).1.length (BB (F3 l T S i).1) []), ((2043 : Nat), Ob.row Mode.u false (3 : Nat) (F3 l T S i).2.length (SB (F3 l T S i).2) []), ((111 : Nat), Ob.row Mode.u true (3 : Nat) (0 : Nat) (setG [] fun (x_1 j : Nat) => PV.v ([Value.int IntKind.i64 (0 : Int), Value.int IntKind.i64 (0 : Int), Value.int IntKind.i64 (0 : Int)].getD j undef)) [])])) (VC.done (St.mk [((1 : Nat), AV.p true (PV.v (Value.int IntKind.i64 x))), ((2 : Nat), AV.p true (PV.v (Value.bool wr))), ((3 : Nat), AV.p true (PV.v (Value.int IntKind.i64 v))), ((4 : Nat), AV.p true (PV.v (Value.int IntKind.i64 lf))), ((10 : Nat), AV.adr (10 : Nat) (0 : Nat)), ((11 : Nat), AV.p true (PV.v (Value.int IntKind.i64 hd))), ((12 : Nat), AV.own (1041 : Nat)), ((13 : Nat), AV.p true (PV.v (Value.bool true))), ((15 : Nat), AV.own (1041 : Nat)), ((16 : Nat), AV.adr (16 : Nat) (0 : Nat)), ((18 : Nat), AV.p true (PV.v (Value.int IntKind.i64 hd))), ((20 : Nat), AV.p true (PV.v (Value.int IntKind.i64 ((2 : Int) - (↑i : Int))))), ((108 : Nat), AV.p true (PV.v (Value.bool (decide ((0 : Int) ≤ (2 : Int) - (↑i : Int))))))] [((10 : Nat), Ob.box [AV.own (1043 : Nat), AV.own (2043 : Nat)]), ((1041 : Nat), Ob.row Mode.u true (1 : Nat) (3 : Nat) (PA l) []), ((16 : Nat), Ob.box [AV.own (1043 : Nat), AV.own (2043 : Nat)]), ((1043 : Nat), Ob.row Mode.u false (1 : Nat) (F3 l T S i).1.length (BB (F3 l T S i).1) []), ((2043 : Nat), Ob.row Mode.u false (3 : Nat) (F3 l T S i).2.length (SB (F3 l T S i).2) [])])) := by intros; kernel_rfl
def st_spU3 (x : Int) (wr : Bool) (v lf l : Int) (hd : Int) (i : Nat) (T : List (List Blk)) (L B R : List Blk) (j : Nat) : St := ⟨[(1, AI x), (2, AB wr), (3, AI v), (4, AI lf), (10, .adr 10 0), (11, AI 0), (12, nilA), (13, AB false), (15, .own 1041), (16, .adr 16 0), (18, AI hd), (20, AI (2 - (i : Int))), (21, .own 22), (22, AI j)], [(10, nilB2), (1041, .row .u true 1 3 (PA l) []), (16, .box [.own 1043, .own 2043]), (1043, .row .u false 1 (T.set (pth l (2 - i)) B).length (BB (T.set (pth l (2 - i)) B)) []), (2043, .row .u false 3 L.length (SB L) []), (22, .row .u false 3 R.length (SB R) [])]⟩
def r_spU3 (x : Int) (wr : Bool) (v lf l : Int) (hd : Int) (i : Nat) (T : List (List Blk)) (L B R : List Blk) (I : Nat → St → Prop) (J : Nat → St → Prop) (j : Nat) := (G0, res181, ([] : List (Nat × Ob)), [Item.ir ir181_L3, .lend (J j), Item.bend 6, Item.ir ir181_T4, Item.bend 5, Item.ir ir181_T5, .lend (I i), Item.bend 4, Item.ir ir181_T7], st_spU3 x wr v lf l hd i T L B R j)
theorem evr_spU3 : ∀ (x : Int) (wr : Bool) (v lf l hd : Int) (i : Nat) (T : List (List Blk)) (L B R : List Blk) (I J : Nat → St → Prop) (j : Nat), ev G0 res181 [] (3000 : Nat) (((Or.call [] (AB (onS (litI [(0 : Int), (1 : Int) + l / (2 : Int), (3 : Int) + l] ((2 : Int) - (↑i : Int)).toNat) ((L.getD (↑j : Int).toNat b0).col ((2 : Nat) + (0 : Nat))))) [] ((Or.stop (0 : Nat)).split Or.nil).lit).lit.lit.lit.lit.lit.lit.lit.lit.lit.lit.split Or.nil.lit.lit.lit.lit.lit.lit.lit.lit.lit.lit.lit.lit).split Or.nil) [Item.ir ir181_L3, Item.lend (J j), Item.bend (6 : Nat), Item.ir ir181_T4, Item.bend (5 : Nat), Item.ir ir181_T5, Item.lend (I i), Item.bend (4 : Nat), Item.ir ir181_T7] (st_spU3 x wr v lf l hd i T L B R j) = VC.split (decide ((↑j : Int) < (↑L.length : Int))) (VC.need ((0 : Int) ≤ (2 : Int) - (↑i : Int) ∧ ((2 : Int) - (↑i : Int)).toNat < (3 : Nat)) (VC.need (((2 : Int) - (↑i : Int)).toNat < (3 : Nat)) (VC.need ((0 : Int) ≤ litI [(0 : Int), (1 : Int) + l / (2 : Int), (3 : Int) + l] ((2 : Int) - (↑i : Int)).toNat ∧ (litI [(0 : Int), (1 : Int) + l / (2 : Int), (3 : Int) + l] ((2 : Int) - (↑i : Int)).toNat).toNat < (T.set (pth l ((2 : Nat) - i)) B).length) (VC.need ((litI [(0 : Int), (1 : Int) + l / (2 : Int), (3 : Int) + l] ((2 : Int) - (↑i : Int)).toNat).toNat < (T.set (pth l ((2 : Nat) - i)) B).length) (VC.split (decide ((↑((T.set (pth l ((2 : Nat) - i)) B).getD (litI [(0 : Int), (1 : Int) + l / (2 : Int), (3 : Int) + l] ((2 : Int) - (↑i : Int)).toNat).toNat []).length : Int) < (2 : Int))) (VC.need ((0 : Int) ≤ (2 : Int) - (↑i : Int) ∧ ((2 : Int) - (↑i : Int)).toNat < (3 : Nat)) (VC.need (((2 : Int) - (↑i : Int)).toNat < (3 : Nat)) (VC.need ((0 : Int) ≤ (↑j : Int) ∧ (↑j : Int).toNat < L.length) (VC.need ((↑j : Int).toNat < L.length) (VC.call (137 : Nat) [AV.p true (PV.v (Value.int IntKind.i64 (litI [(0 : Int), (1 : Int) + l / (2 : Int), (3 : Int) + l] ((2 : Int) - (↑i : Int)).toNat))), AV.p true (PV.v (Value.int IntKind.i64 ((L.getD (↑j : Int).toNat b0).col ((2 : Nat) + (0 : Nat)))))] [] (AB (onS (litI [(0 : Int), (1 : Int) + l / (2 : Int), (3 : Int) + l] ((2 : Int) - (↑i : Int)).toNat) ((L.getD (↑j : Int).toNat b0).col ((2 : Nat) + (0 : Nat))))) [] (VC.split (onS (litI [(0 : Int), (1 : Int) + l / (2 : Int), (3 : Int) + l] ((2 : Int) - (↑i : Int)).toNat) ((L.getD (↑j : Int).toNat b0).col ((2 : Nat) + (0 : Nat)))) (VC.stop [Item.ir ir181_C1, Item.bend (7 : Nat), Item.ir ir181_D1, Item.lend (J j), Item.bend (6 : Nat), Item.ir ir181_T4, Item.bend (5 : Nat), Item.ir ir181_T5, Item.lend (I i), Item.bend (4 : Nat), Item.ir ir181_T7] (St.mk [((1 : Nat), AV.p true (PV.v (Value.int IntKind.i64 x))), ((2 : Nat), AV.p true (PV.v (Value.bool wr))), ((3 : Nat), AV.p true (PV.v (Value.int IntKind.i64 v))), ((4 : Nat), AV.p true (PV.v (Value.int IntKind.i64 lf))), ((10 : Nat), AV.adr (10 : Nat) (0 : Nat)), ((11 : Nat), AV.p true (PV.v (Value.int IntKind.i64 (0 : Int)))), ((12 : Nat), AV.p true (PV.v (Value.slice none (0 : Nat) (0 : Nat)))), ((13 : Nat), AV.p true (PV.v (Value.bool false))), ((15 : Nat), AV.own (1041 : Nat)), ((16 : Nat), AV.adr (16 : Nat) (0 : Nat)), ((18 : Nat), AV.p true (PV.v (Value.int IntKind.i64 hd))), ((20 : Nat), AV.p true (PV.v (Value.int IntKind.i64 ((2 : Int) - (↑i : Int))))), ((21 : Nat), AV.own (22 : Nat)), ((22 : Nat), AV.p true (PV.v (Value.int IntKind.i64 (↑j : Int)))), ((116 : Nat), AV.p true (PV.v (Value.bool (decide ((↑j : Int) < (↑L.length : Int)))))), ((141 : Nat), AV.p true (PV.v (Value.bool (onS (litI [(0 : Int), (1 : Int) + l / (2 : Int), (3 : Int) + l] ((2 : Int) - (↑i : Int)).toNat) ((L.getD (↑j : Int).toNat b0).col ((2 : Nat) + (0 : Nat)))))))] [((10 : Nat), Ob.box [AV.p true (PV.v (Value.slice none (0 : Nat) (0 : Nat))), AV.p true (PV.v (Value.slice none (0 : Nat) (0 : Nat)))]), ((1041 : Nat), Ob.row Mode.u true (1 : Nat) (3 : Nat) (PA l) []), ((16 : Nat), Ob.box [AV.own (1043 : Nat), AV.own (2043 : Nat)]), ((1043 : Nat), Ob.row Mode.u false (1 : Nat) (T.set (pth l ((2 : Nat) - i)) B).length (cellSet (BB (T.set (pth l ((2 : Nat) - i)) B)) (litI [(0 : Int), (1 : Int) + l / (2 : Int), (3 : Int) + l] ((2 : Int) - (↑i : Int)).toNat).toNat (nat_lit 0) (PV.sl false (3 : Nat) ((T.set (pth l ((2 : Nat) - i)) B).getD (litI [(0 : Int), (1 : Int) + l / (2 : Int), (3 : Int) + l] ((2 : Int) - (↑i : Int)).toNat).toNat []).length (SB ((T.set (pth l ((2 : Nat) - i)) B).getD (litI [(0 : Int), (1 : Int) + l / (2 : Int), (3 : Int) + l] ((2 : Int) - (↑i : Int)).toNat).toNat [])))) []), ((2043 : Nat), Ob.row Mode.u false (3 : Nat) L.length (SB L) []), ((22 : Nat), Ob.row Mode.u false (3 : Nat) R.length (SB R) [])])) (VC.need ((0 : Int) ≤ (↑j : Int) ∧ (↑j : Int).toNat < L.length) (VC.need ((↑j : Int).toNat < L.length) (VC.need (((R.length + (1 : Nat)) * (24 : Nat) ≤ (140737488355328 : Nat) ∧ (↑(R.length + (1 : Nat)) : Int) ≤ (9223372036854775807 : Int)) ∧ allV (3 : Nat) (1 : Nat) (setG [((0 : Nat), (0 : Nat), PV.v (Value.int IntKind.i64 ((L.getD (↑j : Int).toNat b0).col ((0 : Nat) + (0 : Nat))))), ((0 : Nat), (1 : Nat), PV.v (Value.int IntKind.i64 ((L.getD (↑j : Int).toNat b0).col ((0 : Nat) + ((0 : Nat) + (1 : Nat)))))), ((0 : Nat), (2 : Nat), PV.v (Value.int IntKind.i64 ((L.getD (↑j : Int).toNat b0).col ((0 : Nat) + ((0 : Nat) + (1 : Nat) + (1 : Nat))))))] fun (x_1 j_1 : Nat) => PV.v ([Value.int IntKind.i64 (0 : Int), Value.int IntKind.i64 (0 : Int), Value.int IntKind.i64 (0 : Int)].getD j_1 undef))) (VC.lend (J j) (St.mk [((1 : Nat), AV.p true (PV.v (Value.int IntKind.i64 x))), ((2 : Nat), AV.p true (PV.v (Value.bool wr))), ((3 : Nat), AV.p true (PV.v (Value.int IntKind.i64 v))), ((4 : Nat), AV.p true (PV.v (Value.int IntKind.i64 lf))), ((10 : Nat), AV.adr (10 : Nat) (0 : Nat)), ((11 : Nat), AV.p true (PV.v (Value.int IntKind.i64 (0 : Int)))), ((12 : Nat), AV.p true (PV.v (Value.slice none (0 : Nat) (0 : Nat)))), ((13 : Nat), AV.p true (PV.v (Value.bool false))), ((15 : Nat), AV.own (1041 : Nat)), ((16 : Nat), AV.adr (16 : Nat) (0 : Nat)), ((18 : Nat), AV.p true (PV.v (Value.int IntKind.i64 hd))), ((20 : Nat), AV.p true (PV.v (Value.int IntKind.i64 ((2 : Int) - (↑i : Int))))), ((21 : Nat), AV.own (171 : Nat)), ((22 : Nat), AV.p true (PV.v (Value.int IntKind.i64 (IntKind.i64.wrap ((↑j : Int) + (1 : Int)))))), ((116 : Nat), AV.p true (PV.v (Value.bool (decide ((↑j : Int) < (↑L.length : Int)))))), ((141 : Nat), AV.p true (PV.v (Value.bool (onS (litI [(0 : Int), (1 : Int) + l / (2 : Int), (3 : Int) + l] ((2 : Int) - (↑i : Int)).toNat) ((L.getD (↑j : Int).toNat b0).col ((2 : Nat) + (0 : Nat)))))))] [((10 : Nat), Ob.box [AV.p true (PV.v (Value.slice none (0 : Nat) (0 : Nat))), AV.p true (PV.v (Value.slice none (0 : Nat) (0 : Nat)))]), ((1041 : Nat), Ob.row Mode.u true (1 : Nat) (3 : Nat) (PA l) []), ((16 : Nat), Ob.box [AV.own (1043 : Nat), AV.own (2043 : Nat)]), ((1043 : Nat), Ob.row Mode.u false (1 : Nat) (T.set (pth l ((2 : Nat) - i)) B).length (cellSet (BB (T.set (pth l ((2 : Nat) - i)) B)) (litI [(0 : Int), (1 : Int) + l / (2 : Int), (3 : Int) + l] ((2 : Int) - (↑i : Int)).toNat).toNat (nat_lit 0) (PV.sl false (3 : Nat) ((T.set (pth l ((2 : Nat) - i)) B).getD (litI [(0 : Int), (1 : Int) + l / (2 : Int), (3 : Int) + l] ((2 : Int) - (↑i : Int)).toNat).toNat []).length (SB ((T.set (pth l ((2 : Nat) - i)) B).getD (litI [(0 : Int), (1 : Int) + l / (2 : Int), (3 : Int) + l] ((2 : Int) - (↑i : Int)).toNat).toNat [])))) []), ((2043 : Nat), Ob.row Mode.u false (3 : Nat) L.length (SB L) []), ((171 : Nat), Ob.row Mode.u false (3 : Nat) (R.length + (1 : Nat)) (fun (a b : Nat) => if a < R.length then SB R a b else setG [((0 : Nat), (0 : Nat), PV.v (Value.int IntKind.i64 ((L.getD (↑j : Int).toNat b0).col ((0 : Nat) + (0 : Nat))))), ((0 : Nat), (1 : Nat), PV.v (Value.int IntKind.i64 ((L.getD (↑j : Int).toNat b0).col ((0 : Nat) + ((0 : Nat) + (1 : Nat)))))), ((0 : Nat), (2 : Nat), PV.v (Value.int IntKind.i64 ((L.getD (↑j : Int).toNat b0).col ((0 : Nat) + ((0 : Nat) + (1 : Nat) + (1 : Nat))))))] (fun (x_1 j_1 : Nat) => PV.v ([Value.int IntKind.i64 (0 : Int), Value.int IntKind.i64 (0 : Int), Value.int IntKind.i64 (0 : Int)].getD j_1 undef)) (a - R.length) b) [])]))))))))))) (VC.need ((0 : Int) ≤ (↑j : Int) ∧ (↑j : Int).toNat < L.length) (VC.need ((↑j : Int).toNat < L.length) (VC.need (((R.length + (1 : Nat)) * (24 : Nat) ≤ (140737488355328 : Nat) ∧ (↑(R.length + (1 : Nat)) : Int) ≤ (9223372036854775807 : Int)) ∧ allV (3 : Nat) (1 : Nat) (setG [((0 : Nat), (0 : Nat), PV.v (Value.int IntKind.i64 ((L.getD (↑j : Int).toNat b0).col ((0 : Nat) + (0 : Nat))))), ((0 : Nat), (1 : Nat), PV.v (Value.int IntKind.i64 ((L.getD (↑j : Int).toNat b0).col ((0 : Nat) + ((0 : Nat) + (1 : Nat)))))), ((0 : Nat), (2 : Nat), PV.v (Value.int IntKind.i64 ((L.getD (↑j : Int).toNat b0).col ((0 : Nat) + ((0 : Nat) + (1 : Nat) + (1 : Nat))))))] fun (x_1 j_1 : Nat) => PV.v ([Value.int IntKind.i64 (0 : Int), Value.int IntKind.i64 (0 : Int), Value.int IntKind.i64 (0 : Int)].getD j_1 undef))) (VC.lend (J j) (St.mk [((1 : Nat), AV.p true (PV.v (Value.int IntKind.i64 x))), ((2 : Nat), AV.p true (PV.v (Value.bool wr))), ((3 : Nat), AV.p true (PV.v (Value.int IntKind.i64 v))), ((4 : Nat), AV.p true (PV.v (Value.int IntKind.i64 lf))), ((10 : Nat), AV.adr (10 : Nat) (0 : Nat)), ((11 : Nat), AV.p true (PV.v (Value.int IntKind.i64 (0 : Int)))), ((12 : Nat), AV.p true (PV.v (Value.slice none (0 : Nat) (0 : Nat)))), ((13 : Nat), AV.p true (PV.v (Value.bool false))), ((15 : Nat), AV.own (1041 : Nat)), ((16 : Nat), AV.adr (16 : Nat) (0 : Nat)), ((18 : Nat), AV.p true (PV.v (Value.int IntKind.i64 hd))), ((20 : Nat), AV.p true (PV.v (Value.int IntKind.i64 ((2 : Int) - (↑i : Int))))), ((21 : Nat), AV.own (171 : Nat)), ((22 : Nat), AV.p true (PV.v (Value.int IntKind.i64 (IntKind.i64.wrap ((↑j : Int) + (1 : Int)))))), ((116 : Nat), AV.p true (PV.v (Value.bool (decide ((↑j : Int) < (↑L.length : Int)))))), ((141 : Nat), AV.p true (PV.v (Value.bool false)))] [((10 : Nat), Ob.box [AV.p true (PV.v (Value.slice none (0 : Nat) (0 : Nat))), AV.p true (PV.v (Value.slice none (0 : Nat) (0 : Nat)))]), ((1041 : Nat), Ob.row Mode.u true (1 : Nat) (3 : Nat) (PA l) []), ((16 : Nat), Ob.box [AV.own (1043 : Nat), AV.own (2043 : Nat)]), ((1043 : Nat), Ob.row Mode.u false (1 : Nat) (T.set (pth l ((2 : Nat) - i)) B).length (cellSet (BB (T.set (pth l ((2 : Nat) - i)) B)) (litI [(0 : Int), (1 : Int) + l / (2 : Int), (3 : Int) + l] ((2 : Int) - (↑i : Int)).toNat).toNat (nat_lit 0) (PV.sl false (3 : Nat) ((T.set (pth l ((2 : Nat) - i)) B).getD (litI [(0 : Int), (1 : Int) + l / (2 : Int), (3 : Int) + l] ((2 : Int) - (↑i : Int)).toNat).toNat []).length (SB ((T.set (pth l ((2 : Nat) - i)) B).getD (litI [(0 : Int), (1 : Int) + l / (2 : Int), (3 : Int) + l] ((2 : Int) - (↑i : Int)).toNat).toNat [])))) []), ((2043 : Nat), Ob.row Mode.u false (3 : Nat) L.length (SB L) []), ((171 : Nat), Ob.row Mode.u false (3 : Nat) (R.length + (1 : Nat)) (fun (a b : Nat) => if a < R.length then SB R a b else setG [((0 : Nat), (0 : Nat), PV.v (Value.int IntKind.i64 ((L.getD (↑j : Int).toNat b0).col ((0 : Nat) + (0 : Nat))))), ((0 : Nat), (1 : Nat), PV.v (Value.int IntKind.i64 ((L.getD (↑j : Int).toNat b0).col ((0 : Nat) + ((0 : Nat) + (1 : Nat)))))), ((0 : Nat), (2 : Nat), PV.v (Value.int IntKind.i64 ((L.getD (↑j : Int).toNat b0).col ((0 : Nat) + ((0 : Nat) + (1 : Nat) + (1 : Nat))))))] (fun (x_1 j_1 : Nat) => PV.v ([Value.int IntKind.i64 (0 : Int), Value.int IntKind.i64 (0 : Int), Value.int IntKind.i64 (0 : Int)].getD j_1 undef)) (a - R.length) b) [])])))))))))) (VC.lend (I i) (St.mk [((1 : Nat), AV.p true (PV.v (Value.int IntKind.i64 x))), ((2 : Nat), AV.p true (PV.v (Value.bool wr))), ((3 : Nat), AV.p true (PV.v (Value.int IntKind.i64 v))), ((4 : Nat), AV.p true (PV.v (Value.int IntKind.i64 lf))), ((10 : Nat), AV.adr (10 : Nat) (0 : Nat)), ((11 : Nat), AV.p true (PV.v (Value.int IntKind.i64 (0 : Int)))), ((12 : Nat), AV.p true (PV.v (Value.slice none (0 : Nat) (0 : Nat)))), ((13 : Nat), AV.p true (PV.v (Value.bool false))), ((15 : Nat), AV.own (1041 : Nat)), ((16 : Nat), AV.adr (16 : Nat) (0 : Nat)), ((18 : Nat), AV.p true (PV.v (Value.int IntKind.i64 hd))), ((20 : Nat), AV.p true (PV.v (Value.int IntKind.i64 (IntKind.i64.wrap ((2 : Int) - (↑i : Int) - (1 : Int)))))), ((21 : Nat), AV.own (22 : Nat)), ((22 : Nat), AV.p true (PV.v (Value.int IntKind.i64 (↑j : Int)))), ((116 : Nat), AV.p true (PV.v (Value.bool (decide ((↑j : Int) < (↑L.length : Int))))))] [((10 : Nat), Ob.box [AV.p true (PV.v (Value.slice none (0 : Nat) (0 : Nat))), AV.p true (PV.v (Value.slice none (0 : Nat) (0 : Nat)))]), ((1041 : Nat), Ob.row Mode.u true (1 : Nat) (3 : Nat) (PA l) []), ((16 : Nat), Ob.box [AV.own (1043 : Nat), AV.own (22 : Nat)]), ((1043 : Nat), Ob.row Mode.u false (1 : Nat) (T.set (pth l ((2 : Nat) - i)) B).length (BB (T.set (pth l ((2 : Nat) - i)) B)) []), ((22 : Nat), Ob.row Mode.u false (3 : Nat) R.length (SB R) [])])) := by intros; kernel_rfl
def st_spUC (x : Int) (wr : Bool) (v lf l : Int) (hd : Int) (i : Nat) (T : List (List Blk)) (L B R : List Blk) (j : Nat) : St := ⟨[(1, AI x), (2, AB wr), (3, AI v), (4, AI lf), (10, .adr 10 0), (11, AI 0), (12, nilA), (13, AB false), (15, .own 1041), (16, .adr 16 0), (18, AI hd), (20, AI (2 - (i : Int))), (21, .own 22), (22, AI j)], [(10, nilB2), (1041, .row .u true 1 3 (PA l) []), (16, .box [.own 1043, .own 2043]), (1043, .row .u false 1 (T.set (pth l (2 - i)) B).length (BB (T.set (pth l (2 - i)) B)) []), (2043, .row .u false 3 L.length (SB L) []), (22, .row .u false 3 R.length (SB R) [])]⟩
def r_spUC (x : Int) (wr : Bool) (v lf l : Int) (hd : Int) (i : Nat) (T : List (List Blk)) (L B R : List Blk) (I : Nat → St → Prop) (J : Nat → St → Prop) (j : Nat) := (G0, res181, ([] : List (Nat × Ob)), [Item.ir ir181_C1, Item.bend 7, Item.ir ir181_D1, .lend (J j), Item.bend 6, Item.ir ir181_T4, Item.bend 5, Item.ir ir181_T5, .lend (I i), Item.bend 4, Item.ir ir181_T7], st_spUC x wr v lf l hd i T L B R j)
theorem evr_spUC : ∀ (x : Int) (wr : Bool) (v lf l hd : Int) (i : Nat) (T : List (List Blk)) (L B R : List Blk) (I J : Nat → St → Prop) (j : Nat), ev G0 res181 [] (3000 : Nat) Or.nil [Item.ir ir181_C1, Item.bend (7 : Nat), Item.ir ir181_D1, Item.lend (J j), Item.bend (6 : Nat), Item.ir ir181_T4, Item.bend (5 : Nat), Item.ir ir181_T5, Item.lend (I i), Item.bend (4 : Nat), Item.ir ir181_T7] (st_spUC x wr v lf l hd i T L B R j) = VC.need ((0 : Int) ≤ (2 : Int) - (↑i : Int) ∧ ((2 : Int) - (↑i : Int)).toNat < (3 : Nat)) (VC.need (((2 : Int) - (↑i : Int)).toNat < (3 : Nat)) (VC.need ((0 : Int) ≤ (2 : Int) - (↑i : Int) ∧ ((2 : Int) - (↑i : Int)).toNat < (3 : Nat)) (VC.need (((2 : Int) - (↑i : Int)).toNat < (3 : Nat)) (VC.need ((0 : Int) ≤ litI [(0 : Int), (1 : Int) + l / (2 : Int), (3 : Int) + l] ((2 : Int) - (↑i : Int)).toNat ∧ (litI [(0 : Int), (1 : Int) + l / (2 : Int), (3 : Int) + l] ((2 : Int) - (↑i : Int)).toNat).toNat < (T.set (pth l ((2 : Nat) - i)) B).length) (VC.need ((litI [(0 : Int), (1 : Int) + l / (2 : Int), (3 : Int) + l] ((2 : Int) - (↑i : Int)).toNat).toNat < (T.set (pth l ((2 : Nat) - i)) B).length) (VC.need ((0 : Int) ≤ (↑j : Int) ∧ (↑j : Int).toNat < L.length) (VC.need ((↑j : Int).toNat < L.length) (VC.need (((((T.set (pth l ((2 : Nat) - i)) B).getD (litI [(0 : Int), (1 : Int) + l / (2 : Int), (3 : Int) + l] ((2 : Int) - (↑i : Int)).toNat).toNat []).length + (1 : Nat)) * (24 : Nat) ≤ (140737488355328 : Nat) ∧ (↑(((T.set (pth l ((2 : Nat) - i)) B).getD (litI [(0 : Int), (1 : Int) + l / (2 : Int), (3 : Int) + l] ((2 : Int) - (↑i : Int)).toNat).toNat []).length + (1 : Nat)) : Int) ≤ (9223372036854775807 : Int)) ∧ allV (3 : Nat) (1 : Nat) (setG [((0 : Nat), (0 : Nat), PV.v (Value.int IntKind.i64 ((L.getD (↑j : Int).toNat b0).col ((0 : Nat) + (0 : Nat))))), ((0 : Nat), (1 : Nat), PV.v (Value.int IntKind.i64 ((L.getD (↑j : Int).toNat b0).col ((0 : Nat) + ((0 : Nat) + (1 : Nat)))))), ((0 : Nat), (2 : Nat), PV.v (Value.int IntKind.i64 ((L.getD (↑j : Int).toNat b0).col ((0 : Nat) + ((0 : Nat) + (1 : Nat) + (1 : Nat))))))] fun (x_1 j_1 : Nat) => PV.v ([Value.int IntKind.i64 (0 : Int), Value.int IntKind.i64 (0 : Int), Value.int IntKind.i64 (0 : Int)].getD j_1 undef))) (VC.need ((0 : Int) ≤ litI [(0 : Int), (1 : Int) + l / (2 : Int), (3 : Int) + l] ((2 : Int) - (↑i : Int)).toNat ∧ (litI [(0 : Int), (1 : Int) + l / (2 : Int), (3 : Int) + l] ((2 : Int) - (↑i : Int)).toNat).toNat < (T.set (pth l ((2 : Nat) - i)) B).length) (VC.need ((litI [(0 : Int), (1 : Int) + l / (2 : Int), (3 : Int) + l] ((2 : Int) - (↑i : Int)).toNat).toNat < (T.set (pth l ((2 : Nat) - i)) B).length ∧ (litI [(0 : Int), (1 : Int) + l / (2 : Int), (3 : Int) + l] ((2 : Int) - (↑i : Int)).toNat).toNat = ((litI [(0 : Int), (1 : Int) + l / (2 : Int), (3 : Int) + l] ((2 : Int) - (↑i : Int)).toNat).toNat, (0 : Nat), (1155 : Nat)).fst) (VC.lend (J j) (St.mk [((1 : Nat), AV.p true (PV.v (Value.int IntKind.i64 x))), ((2 : Nat), AV.p true (PV.v (Value.bool wr))), ((3 : Nat), AV.p true (PV.v (Value.int IntKind.i64 v))), ((4 : Nat), AV.p true (PV.v (Value.int IntKind.i64 lf))), ((10 : Nat), AV.adr (10 : Nat) (0 : Nat)), ((11 : Nat), AV.p true (PV.v (Value.int IntKind.i64 (0 : Int)))), ((12 : Nat), AV.p true (PV.v (Value.slice none (0 : Nat) (0 : Nat)))), ((13 : Nat), AV.p true (PV.v (Value.bool false))), ((15 : Nat), AV.own (1041 : Nat)), ((16 : Nat), AV.adr (16 : Nat) (0 : Nat)), ((18 : Nat), AV.p true (PV.v (Value.int IntKind.i64 hd))), ((20 : Nat), AV.p true (PV.v (Value.int IntKind.i64 ((2 : Int) - (↑i : Int))))), ((21 : Nat), AV.own (22 : Nat)), ((22 : Nat), AV.p true (PV.v (Value.int IntKind.i64 (IntKind.i64.wrap ((↑j : Int) + (1 : Int))))))] [((10 : Nat), Ob.box [AV.p true (PV.v (Value.slice none (0 : Nat) (0 : Nat))), AV.p true (PV.v (Value.slice none (0 : Nat) (0 : Nat)))]), ((1041 : Nat), Ob.row Mode.u true (1 : Nat) (3 : Nat) (PA l) []), ((16 : Nat), Ob.box [AV.own (1043 : Nat), AV.own (2043 : Nat)]), ((1043 : Nat), Ob.row Mode.u false (1 : Nat) (T.set (pth l ((2 : Nat) - i)) B).length (setG [((litI [(0 : Int), (1 : Int) + l / (2 : Int), (3 : Int) + l] ((2 : Int) - (↑i : Int)).toNat).toNat, (0 : Nat), PV.sl false (3 : Nat) (((T.set (pth l ((2 : Nat) - i)) B).getD (litI [(0 : Int), (1 : Int) + l / (2 : Int), (3 : Int) + l] ((2 : Int) - (↑i : Int)).toNat).toNat []).length + (1 : Nat)) fun (a b : Nat) => if a < ((T.set (pth l ((2 : Nat) - i)) B).getD (litI [(0 : Int), (1 : Int) + l / (2 : Int), (3 : Int) + l] ((2 : Int) - (↑i : Int)).toNat).toNat []).length then SB ((T.set (pth l ((2 : Nat) - i)) B).getD (litI [(0 : Int), (1 : Int) + l / (2 : Int), (3 : Int) + l] ((2 : Int) - (↑i : Int)).toNat).toNat []) a b else setG [((0 : Nat), (0 : Nat), PV.v (Value.int IntKind.i64 ((L.getD (↑j : Int).toNat b0).col ((0 : Nat) + (0 : Nat))))), ((0 : Nat), (1 : Nat), PV.v (Value.int IntKind.i64 ((L.getD (↑j : Int).toNat b0).col ((0 : Nat) + ((0 : Nat) + (1 : Nat)))))), ((0 : Nat), (2 : Nat), PV.v (Value.int IntKind.i64 ((L.getD (↑j : Int).toNat b0).col ((0 : Nat) + ((0 : Nat) + (1 : Nat) + (1 : Nat))))))] (fun (x_1 j_1 : Nat) => PV.v ([Value.int IntKind.i64 (0 : Int), Value.int IntKind.i64 (0 : Int), Value.int IntKind.i64 (0 : Int)].getD j_1 undef)) (a - ((T.set (pth l ((2 : Nat) - i)) B).getD (litI [(0 : Int), (1 : Int) + l / (2 : Int), (3 : Int) + l] ((2 : Int) - (↑i : Int)).toNat).toNat []).length) b)] (BB (T.set (pth l ((2 : Nat) - i)) B))) []), ((2043 : Nat), Ob.row Mode.u false (3 : Nat) L.length (SB L) []), ((22 : Nat), Ob.row Mode.u false (3 : Nat) R.length (SB R) [])])))))))))))) := by intros; kernel_rfl
end Go.Gw
