/- OrderRows, of the program and of the model; with no condition. -/
import Derived.Test.YtopnhnnfobbocaaDoorBag
import Derived.KernelRfl
namespace Go.Gw
open Go Go.Proofs
set_option linter.unusedSimpArgs false
set_option linter.unusedVariables false
set_option maxRecDepth 100000
def ir110_L1 : Ir :=
  (.seq
  (.seq
  (.reg [6, 7, 8] [o 6 (.mov (tt 5)),
    o 7 (.mov (tt 0)),
    o 8 (.len (tt 7)),
    o 9 (.bin .lss (tt 6) (tt 8))])
  (.cond (tt 9)
   .skip
   (.exit 0)))
  (.seq
  (.block 1
   (.seq
   (.reg [12, 13, 14, 15, 16] [o 12 (.mov (tt 0)),
     o 13 (.mov (tt 5)),
     o 14 (.idx 1 (tt 12) (tt 13)),
     o 15 (.load false 1 (tt 14)),
     o 16 (.mov (tt 1)),
     o 17 (.bin .eql (tt 15) (tt 16))])
   (.cond (tt 17)
    (.seq
    (.reg [18] [o 18 (.mov (tt 5)),
      o 4 (.mov (tt 18))])
    .ret)
    .skip)))
  (.reg [10, 11] [o 10 (.mov (tt 5)),
    o 11 (.bin .add (tt 10) (ci 1)),
    o 5 (.mov (tt 11))])))
def ir110_T2 : Ir :=
  (.seq
  (.reg [] [o 4 (.mov (ci (-1)))])
  .ret)
def ir110 : Ir :=
  (.seq
  (.reg [] [o 4 (.mov (ci 0))])
  (.seq
  (.seq
  (.reg [] [o 5 (.mov (ci 0))])
  (.block 0
   (.loop ir110_L1)))
  ir110_T2))
def keep110 : List Nat := [0, 1, 4, 5, 9, 17]
def res110 : List RI := [.tmp 4]
theorem chk110 : chk Tryd.prog 110 2 keep110 = some (ir110, res110) := by kernel_rfl
def ir112 : Ir :=
  (.seq
  (.reg [] [o 5 (.box 1 (tt 2)),
    o 6 (.mov (.const .nilFunc))])
  (.seq
  (.reg [8, 9, 10] [o 8 (.mov (tt 0)),
    o 9 (.mov (tt 1)),
    o 10 (.call 113 [(tt 8), (tt 9)]),
    o 7 (.alloc [(.int .i64 0)]),
    on (.store 1 (tt 7) (tt 10))])
  (.seq
  (.reg [11] [o 11 (.mkFn 156 [] [(tt 7), (tt 5)]),
    o 6 (.mov (tt 11))])
  .ret)))
def keep112 : List Nat := [0, 1, 2, 5, 6, 7]
def res112 : List RI := [.tmp 6]
theorem chk112 : chk Tryd.prog 112 3 keep112 = some (ir112, res112) := by kernel_rfl
def ir156 : Ir :=
  (.seq
  (.reg [] [o 6 (.mov (ci 0))])
  (.seq
  (.seq
  (.dreg [7, 8, 9, 10, 11, 12, 13, 14, 15, 16, 17, 18] [0, 1, 3, 7, 7, 31, 63, 7, 7, 391, 903, 2047, 4095] [(0, 1007), (4, 1011), (6, 1013), (8, 1015), (10, 1017)] [o 7 (.load false 1 (tt 2)),
    o 8 (.bin .geq (tt 7) (ci 0)),
    o 9 (.mov (tt 8)),
    og 10 9 true (.mov (tt 0)),
    og 11 9 true (.load false 1 (tt 2)),
    og 12 9 true (.idx 1 (tt 10) (tt 11)),
    og 13 9 true (.load false 1 (tt 12)),
    og 14 9 true (.mov (tt 1)),
    og 15 9 true (.load false 1 (tt 2)),
    og 16 9 true (.idx 1 (tt 14) (tt 15)),
    og 17 9 true (.load false 1 (tt 16)),
    og 18 9 true (.bin .neq (tt 13) (tt 17)),
    o 19 (.pick (tt 9) (tt 18) (cb false))])
  (.cond (tt 19)
   (.seq
   (.seq
   (.reg [] [o 20 (.load false 1 (tt 3))])
   (.cond (tt 20)
    (.seq
    (.dreg [21, 22, 23, 24, 25, 26, 27, 28, 29] [0, 0, 3, 7, 0, 0, 48, 112, 255, 511] [(1, 1022), (3, 1024), (5, 1026), (7, 1028), (8, 1029), (8, 2029), (8, 3029), (8, 4029), (8, 5029), (8, 6029), (8, 7029), (8, 8029)] [o 21 (.mov (tt 1)),
      o 22 (.load false 1 (tt 2)),
      o 23 (.idx 1 (tt 21) (tt 22)),
      o 24 (.load false 1 (tt 23)),
      o 25 (.mov (tt 0)),
      o 26 (.load false 1 (tt 2)),
      o 27 (.idx 1 (tt 25) (tt 26)),
      o 28 (.load false 1 (tt 27)),
      o 29 (.call 151 [(tt 24), (tt 28)]),
      o 6 (.mov (tt 29))])
    .ret)
    .skip))
   (.seq
   (.dreg [30, 31, 32, 33, 34, 35, 36, 37, 38] [0, 0, 3, 7, 0, 0, 48, 112, 255, 511] [(1, 1031), (3, 1033), (5, 1035), (7, 1037), (8, 1038), (8, 2038), (8, 3038), (8, 4038), (8, 5038), (8, 6038), (8, 7038), (8, 8038)] [o 30 (.mov (tt 0)),
     o 31 (.load false 1 (tt 2)),
     o 32 (.idx 1 (tt 30) (tt 31)),
     o 33 (.load false 1 (tt 32)),
     o 34 (.mov (tt 1)),
     o 35 (.load false 1 (tt 2)),
     o 36 (.idx 1 (tt 34) (tt 35)),
     o 37 (.load false 1 (tt 36)),
     o 38 (.call 151 [(tt 33), (tt 37)]),
     o 6 (.mov (tt 38))])
   .ret))
   .skip))
  (.seq
  (.reg [39, 40, 41] [o 39 (.mov (tt 0)),
    o 40 (.mov (tt 1)),
    o 41 (.call 89 [(tt 39), (tt 40)]),
    o 6 (.mov (tt 41))])
  .ret)))
def keep156 : List Nat := [0, 1, 2, 3, 6, 19, 20]
def res156 : List RI := [.tmp 6]
theorem chk156 : chk Tryd.prog 156 4 keep156 = some (ir156, res156) := by kernel_rfl
def ir44 : Ir :=
  (.seq
  (.reg [] [o 3 (.box 2 (tt 0)),
    o 6 (.alloc [(.slice none 0 0), (.slice none 0 0)]),
    o 7 (.mov (cb false))])
  (.seq
  (.seq
  (.reg [9, 10, 11, 12, 13, 14, 15, 16, 17] [o 9 (.load true 2 (tt 3)),
    o 10 (.call 37 [(tt 9)]),
    o 11 (.un .not (tt 10)),
    o 12 (.mov (tt 11)),
    og 13 12 false (.fadr 0 (tt 3)),
    og 14 12 false (.load false 1 (tt 13)),
    og 15 12 false (.mov (tt 1)),
    og 16 12 false (.call 111 [(tt 14), (tt 15)]),
    og 17 12 false (.un .not (tt 16)),
    o 18 (.pick (tt 12) (cb true) (tt 17))])
  (.cond (tt 18)
   (.seq
   (.reg [19] [o 19 (.build [(.slice none 0 0), (.slice none 0 0)] []),
     on (.store 2 (tt 6) (tt 19)),
     o 7 (.mov (cb false))])
   .ret)
   .skip))
  (.seq
  (.reg [20, 21] [o 20 (.load true 2 (tt 3)),
    o 21 (.call 76 [(tt 20)]),
    o 8 (.alloc [(.slice none 0 0), (.slice none 0 0)]),
    on (.store 2 (tt 8) (tt 21))])
  (.seq
  (.dreg [22, 23, 24, 25, 26, 27, 28, 29] [0, 1, 0, 4, 0, 0, 60, 127] [(1, 1023), (3, 1025), (6, 1028), (6, 2028), (6, 3028), (6, 4028), (6, 5028), (6, 6028), (6, 7028), (6, 8028), (7, 1029), (7, 2029), (7, 3029), (7, 4029), (7, 5029), (7, 6029), (7, 7029), (7, 8029)] [o 22 (.fadr 1 (tt 8)),
    o 23 (.load false 1 (tt 22)),
    o 24 (.fadr 0 (tt 3)),
    o 25 (.load false 1 (tt 24)),
    o 26 (.mov (tt 1)),
    o 27 (.mov (tt 2)),
    o 28 (.call 112 [(tt 25), (tt 26), (tt 27)]),
    o 29 (.call 88 [(tt 23), (tt 28)])])
  (.seq
  (.reg [30] [o 30 (.load true 2 (tt 8)),
    on (.store 2 (tt 6) (tt 30)),
    o 7 (.mov (cb true))])
  .ret)))))
def keep44 : List Nat := [0, 1, 2, 3, 6, 7, 8, 18]
def res44 : List RI := [.cell true 2 6, .tmp 7]
theorem chk44 : chk Tryd.prog 44 3 keep44 = some (ir44, res44) := by kernel_rfl
def ir155_L1 : Ir :=
  (.seq
  (.seq
  (.reg [6, 7, 8] [o 6 (.mov (tt 4)),
    o 7 (.mov (tt 0)),
    o 8 (.len (tt 7)),
    o 9 (.bin .lss (tt 6) (tt 8))])
  (.cond (tt 9)
   .skip
   (.exit 0)))
  (.seq
  (.block 1
   (.reg [12, 13, 14, 15, 16, 17, 18, 19, 20] [o 12 (.mov (tt 3)),
     o 13 (.mkSl 1 0 [(.int .i64 0)] []),
     o 14 (.mov (tt 0)),
     o 15 (.mov (tt 4)),
     o 16 (.idx 1 (tt 14) (tt 15)),
     o 17 (.load false 1 (tt 16)),
     o 18 (.app 1 8 true (tt 13) (tt 17)),
     o 19 (.mkSl 1 1 [(.slice none 0 0)] [(0, (tt 18))]),
     o 20 (.app 1 24 false (tt 12) (tt 19)),
     o 3 (.mov (tt 20))]))
  (.reg [10, 11] [o 10 (.mov (tt 4)),
    o 11 (.bin .add (tt 10) (ci 1)),
    o 4 (.mov (tt 11))])))
def ir155_T2 : Ir :=
  (.seq
  (.reg [21] [o 21 (.mov (tt 3)),
    o 2 (.mov (tt 21))])
  .ret)
def ir155 : Ir :=
  (.seq
  (.reg [] [o 2 (.mov (.const (.slice none 0 0)))])
  (.seq
  (.reg [5] [o 5 (.mkSl 1 0 [(.slice none 0 0)] []),
    o 3 (.mov (tt 5))])
  (.seq
  (.seq
  (.reg [] [o 4 (.mov (ci 0))])
  (.block 0
   (.loop ir155_L1)))
  ir155_T2)))
def keep155 : List Nat := [0, 2, 3, 4, 9]
def res155 : List RI := [.tmp 2]
theorem chk155 : chk Tryd.prog 155 1 keep155 = some (ir155, res155) := by kernel_rfl
def ir109 : Ir :=
  (.seq
  (.reg [] [o 1 (.box 2 (tt 0)),
    o 2 (.alloc [(.slice none 0 0), (.slice none 0 0)])])
  (.seq
  (.reg [4] [o 4 (.load true 2 (tt 1)),
    o 3 (.alloc [(.slice none 0 0), (.slice none 0 0)]),
    on (.store 2 (tt 3) (tt 4))])
  (.seq
  (.reg [5, 6, 7, 8, 9] [o 5 (.mkSl 1 0 [(.string ⟨#[]⟩)] []),
    o 6 (.fadr 0 (tt 1)),
    o 7 (.load false 1 (tt 6)),
    o 8 (.app 1 16 true (tt 5) (tt 7)),
    o 9 (.fadr 0 (tt 3)),
    on (.store 1 (tt 9) (tt 8))])
  (.seq
  (.reg [10, 11, 12, 13] [o 10 (.fadr 1 (tt 1)),
    o 11 (.load false 1 (tt 10)),
    o 12 (.call 155 [(tt 11)]),
    o 13 (.fadr 1 (tt 3)),
    on (.store 1 (tt 13) (tt 12))])
  (.seq
  (.reg [14] [o 14 (.load true 2 (tt 3)),
    on (.store 2 (tt 2) (tt 14))])
  .ret)))))
def keep109 : List Nat := [0, 1, 2, 3]
def res109 : List RI := [.cell true 2 2]
theorem chk109 : chk Tryd.prog 109 1 keep109 = some (ir109, res109) := by kernel_rfl
def ir45_L1 : Ir :=
  (.seq
  (.seq
  (.dreg [58, 59, 60, 61, 62, 63, 64, 65, 66, 67, 68, 69, 70, 71, 72, 73, 74, 75, 76, 77, 78, 79, 80, 81, 82, 83, 84, 85, 86, 87, 88, 89, 90, 91, 92, 93, 94, 95, 96, 97] [0, 1, 3, 7, 15, 31, 63, 63, 255, 511, 63, 1087, 63, 4159, 15423, 31807, 63, 130111, 261183, 524287, 1048575, 2097151, 4194303, 8388607, 16777215, 16777215, 67108863, 134217727, 16777215, 285212671, 16777215, 1090519039, 4043309055, 8338276351, 16777215, 34108080127, 68467818495, 137438953471, 274877906943, 549755813887, 1099511627775] [(9, 1067), (11, 1069), (15, 1073), (18, 1076), (27, 1085), (29, 1087), (33, 1091), (36, 1094)] [o 58 (.mov (tt 13)),
    o 59 (.bin .gtr (tt 58) (ci 0)),
    o 60 (.mov (tt 59)),
    og 61 60 true (.mov (tt 2)),
    og 62 60 true (.un .not (tt 61)),
    og 63 60 true (.mov (tt 62)),
    og 64 63 true (.mov (tt 12)),
    og 65 63 true (.mov (tt 8)),
    og 66 63 true (.idx 1 (tt 64) (tt 65)),
    og 67 63 true (.load false 1 (tt 66)),
    og 68 63 true (.fadr 1 (tt 10)),
    og 69 63 true (.load false 1 (tt 68)),
    og 70 63 true (.mov (tt 13)),
    og 71 63 true (.bin .sub (tt 70) (ci 1)),
    og 72 63 true (.idx 1 (tt 69) (tt 71)),
    og 73 63 true (.load false 1 (tt 72)),
    og 74 63 true (.mov (tt 8)),
    og 75 63 true (.idx 1 (tt 73) (tt 74)),
    og 76 63 true (.load false 1 (tt 75)),
    og 77 63 true (.bin .lss (tt 67) (tt 76)),
    og 78 60 true (.pick (tt 63) (tt 77) (cb false)),
    og 79 60 true (.mov (tt 78)),
    og 80 79 false (.mov (tt 2)),
    og 81 79 false (.mov (tt 80)),
    og 82 81 true (.mov (tt 12)),
    og 83 81 true (.mov (tt 8)),
    og 84 81 true (.idx 1 (tt 82) (tt 83)),
    og 85 81 true (.load false 1 (tt 84)),
    og 86 81 true (.fadr 1 (tt 10)),
    og 87 81 true (.load false 1 (tt 86)),
    og 88 81 true (.mov (tt 13)),
    og 89 81 true (.bin .sub (tt 88) (ci 1)),
    og 90 81 true (.idx 1 (tt 87) (tt 89)),
    og 91 81 true (.load false 1 (tt 90)),
    og 92 81 true (.mov (tt 8)),
    og 93 81 true (.idx 1 (tt 91) (tt 92)),
    og 94 81 true (.load false 1 (tt 93)),
    og 95 81 true (.bin .gtr (tt 85) (tt 94)),
    og 96 79 false (.pick (tt 81) (tt 95) (cb false)),
    og 97 60 true (.pick (tt 79) (cb true) (tt 96)),
    o 98 (.pick (tt 60) (tt 97) (cb false))])
  (.cond (tt 98)
   .skip
   (.exit 2)))
  (.seq
  (.block 3
   (.seq
   (.dreg [101, 102, 103, 104, 105, 106, 107, 108, 109, 110] [0, 1, 0, 0, 8, 0, 32, 120, 248, 511, 1023] [(1, 1102), (4, 1105), (8, 1109)] [o 101 (.fadr 1 (tt 10)),
     o 102 (.load false 1 (tt 101)),
     o 103 (.mov (tt 13)),
     o 104 (.fadr 1 (tt 10)),
     o 105 (.load false 1 (tt 104)),
     o 106 (.mov (tt 13)),
     o 107 (.bin .sub (tt 106) (ci 1)),
     o 108 (.idx 1 (tt 105) (tt 107)),
     o 109 (.load false 1 (tt 108)),
     o 110 (.idx 1 (tt 102) (tt 103)),
     on (.store 1 (tt 110) (tt 109))])
   (.reg [111, 112, 113, 114, 115, 116] [o 111 (.fadr 1 (tt 10)),
     o 112 (.load false 1 (tt 111)),
     o 113 (.mov (tt 13)),
     o 114 (.bin .sub (tt 113) (ci 1)),
     o 115 (.mov (tt 12)),
     o 116 (.idx 1 (tt 112) (tt 114)),
     on (.store 1 (tt 116) (tt 115))])))
  (.reg [99, 100] [o 99 (.mov (tt 13)),
    o 100 (.bin .sub (tt 99) (ci 1)),
    o 13 (.mov (tt 100))])))
def ir45_T2 : Ir :=
  (.reg [41, 42] [o 41 (.mov (tt 11)),
    o 42 (.bin .add (tt 41) (ci 1)),
    o 11 (.mov (tt 42))])
def ir45_L3 : Ir :=
  (.seq
  (.seq
  (.reg [36, 37, 38, 39] [o 36 (.mov (tt 11)),
    o 37 (.fadr 1 (tt 9)),
    o 38 (.load false 1 (tt 37)),
    o 39 (.len (tt 38)),
    o 40 (.bin .lss (tt 36) (tt 39))])
  (.cond (tt 40)
   .skip
   (.exit 0)))
  (.seq
  (.block 1
   (.seq
   (.reg [43, 44, 45, 46, 47] [o 43 (.fadr 1 (tt 9)),
     o 44 (.load false 1 (tt 43)),
     o 45 (.mov (tt 11)),
     o 46 (.idx 1 (tt 44) (tt 45)),
     o 47 (.load false 1 (tt 46)),
     o 12 (.mov (tt 47))])
   (.seq
   (.reg [48, 49, 50, 51, 52, 53] [o 48 (.fadr 1 (tt 10)),
     o 49 (.load false 1 (tt 48)),
     o 50 (.mov (tt 12)),
     o 51 (.mkSl 1 1 [(.slice none 0 0)] [(0, (tt 50))]),
     o 52 (.app 1 24 false (tt 49) (tt 51)),
     o 53 (.fadr 1 (tt 10)),
     on (.store 1 (tt 53) (tt 52))])
   (.seq
   (.reg [54, 55, 56, 57] [o 54 (.fadr 1 (tt 10)),
     o 55 (.load false 1 (tt 54)),
     o 56 (.len (tt 55)),
     o 57 (.bin .sub (tt 56) (ci 1)),
     o 13 (.mov (tt 57))])
   (.block 2
    (.loop ir45_L1))))))
  ir45_T2))
def ir45_T4 : Ir :=
  (.seq
  (.reg [117] [o 117 (.load true 2 (tt 10)),
    on (.store 2 (tt 6) (tt 117)),
    o 7 (.mov (cb true))])
  .ret)
def ir45 : Ir :=
  (.seq
  (.reg [] [o 3 (.box 2 (tt 0)),
    o 6 (.alloc [(.slice none 0 0), (.slice none 0 0)]),
    o 7 (.mov (cb false))])
  (.seq
  (.reg [14, 15] [o 14 (.load true 2 (tt 3)),
    o 15 (.call 109 [(tt 14)]),
    on (.store 2 (tt 3) (tt 15))])
  (.seq
  (.seq
  (.reg [16, 17, 18, 19, 20, 21, 22, 23, 24] [o 16 (.load true 2 (tt 3)),
    o 17 (.call 33 [(tt 16)]),
    o 18 (.un .not (tt 17)),
    o 19 (.mov (tt 18)),
    og 20 19 false (.fadr 0 (tt 3)),
    og 21 19 false (.load false 1 (tt 20)),
    og 22 19 false (.mov (tt 1)),
    og 23 19 false (.call 110 [(tt 21), (tt 22)]),
    og 24 19 false (.bin .lss (tt 23) (ci 0)),
    o 25 (.pick (tt 19) (cb true) (tt 24))])
  (.cond (tt 25)
   (.seq
   (.reg [26] [o 26 (.build [(.slice none 0 0), (.slice none 0 0)] []),
     on (.store 2 (tt 6) (tt 26)),
     o 7 (.mov (cb false))])
   .ret)
   .skip))
  (.seq
  (.reg [27, 28, 29, 30] [o 27 (.fadr 0 (tt 3)),
    o 28 (.load false 1 (tt 27)),
    o 29 (.mov (tt 1)),
    o 30 (.call 110 [(tt 28), (tt 29)]),
    o 8 (.mov (tt 30))])
  (.seq
  (.reg [31, 32] [o 31 (.load true 2 (tt 3)),
    o 32 (.call 32 [(tt 31)]),
    o 9 (.alloc [(.slice none 0 0), (.slice none 0 0)]),
    on (.store 2 (tt 9) (tt 32))])
  (.seq
  (.reg [33, 34, 35] [o 33 (.fadr 0 (tt 9)),
    o 34 (.load false 1 (tt 33)),
    o 35 (.build [(.slice none 0 0), (.slice none 0 0)] [(0, 1, (tt 34))]),
    o 10 (.alloc [(.slice none 0 0), (.slice none 0 0)]),
    on (.store 2 (tt 10) (tt 35))])
  (.seq
  (.seq
  (.reg [] [o 11 (.mov (ci 0))])
  (.block 0
   (.loop ir45_L3)))
  ir45_T4)))))))
def keep45 : List Nat := [0, 1, 2, 3, 6, 7, 8, 9, 10, 11, 12, 13, 25, 40, 98]
def res45 : List RI := [.cell true 2 6, .tmp 7]
theorem chk45 : chk Tryd.prog 45 3 keep45 = some (ir45, res45) := by kernel_rfl

/-! ### columns -/
def colT (f : Nat → ByteArray) (x : ByteArray) : Nat → Int
  | 0 => -1
  | N + 1 => if 0 ≤ colT f x N then colT f x N else if (x.toList == (f N).toList) = true then (N : Int) else -1
theorem colT_lt (f : Nat → ByteArray) (x : ByteArray) : ∀ N, -1 ≤ colT f x N ∧ colT f x N < N
  | 0 => by simp [colT]
  | N + 1 => by
    have := colT_lt f x N
    simp only [colT]
    split
    · omega
    · split <;> omega
theorem colT_no {f : Nat → ByteArray} {x : ByteArray} : ∀ {N : Nat}, (∀ j, j < N → (x.toList == (f j).toList) = false) → colT f x N = -1
  | 0, _ => rfl
  | N + 1, h => by
    simp only [colT, colT_no (N := N) fun j hj => h j (by omega), h N (by omega)]
    simp
theorem colT_at {f : Nat → ByteArray} {x : ByteArray} {k : Nat} (hk : (x.toList == (f k).toList) = true) (h : ∀ j, j < k → (x.toList == (f j).toList) = false) : ∀ {N : Nat}, k < N → colT f x N = k
  | N + 1, hN => by
    by_cases h1 : k = N
    · subst h1
      simp only [colT, colT_no h, hk]
      simp
    · simp only [colT, colT_at (N := N) hk h (by omega)]
      rw [if_pos (by omega)]
theorem colT_has (f : Nat → ByteArray) (x : ByteArray) : ∀ N, decide (0 ≤ colT f x N) = hasT f x N
  | 0 => by simp [colT, hasT, allB]
  | N + 1 => by
    have ih := colT_has f x N
    simp only [hasT, allB] at ih ⊢
    simp only [colT]
    by_cases h : 0 ≤ colT f x N
    · simp only [h, if_true, decide_true] at ih ⊢
      rw [Bool.not_and, ← ih]; simp
    · simp only [h, if_false, decide_false] at ih ⊢
      rw [Bool.not_and, ← ih]
      by_cases h2 : (x.toList == (f N).toList) = true
      · simp [h2]
      · simp only [Bool.not_eq_true] at h2
        simp [h2]
def in_ixT (nn : Bool) (n : Nat) (f : Nat → ByteArray) (s : ByteArray) := (G0, res113, ([] : List (Nat × Ob)), [Item.ir ir113], start [TL nn n f, AT s] [])
theorem c_ixT (nn : Bool) (n : Nat) (f : Nat → ByteArray) (s : ByteArray) (hn : n ≤ 1048576) : PRet Tryd.prog G0 113 [TL nn n f, AT s] (AI (colT f s n)) := by
  refine PRet.by chk113 (ev_idxT nn n f s) ?_
  refine loop_by (st_idxT nn n f s) (fun k => k ≤ n ∧ ∀ j, j < k → (s.toList == (f j).toList) = false) (fun k => n - k) 0 [] [] [] (by simp) ?_ (evr_idxT nn n f s) fun k hk => ?_
  · simp [st_idxT, hbs, St.lowers, St.lower, stLe, leEnv, leObs, obLe, injB, pinC, AV.leC, AV.leCs, PV.leC, PV.Le_v, St.get, St.obj, look, rho, isNew, keptC, renH, Mode.ok, Mode.isZ, PV.isVal, PV.isNilSl, List.all_nil, List.all_cons, List.any_nil, List.any_cons, List.map_nil, List.map_cons, PV.Le_self]
  · obtain ⟨hk, hall⟩ := hk
    simp only [VC.holds_split, VC.holds_need, VC.holds_doneP, VC.holds_done, VC.holds_either, VC.holds_call, VC.holds_callE, VC.holds_lend, VC.holds_stop, VC.holds_fail, decide_eq_true_eq, decide_eq_false_iff_not, Int.toNat_natCast]
    refine ⟨fun h1 => ⟨by omega, fun h2 => ?_, fun h2 => Again.mk (k + 1) [] [] [] ⟨by omega, fun j hj => ?_⟩ (by omega) ?_⟩, fun h1 => ?_⟩
    · rw [colT_at h2 hall (by omega)]; simp
    · by_cases h3 : j = k
      · subst h3; exact h2
      · exact hall j (by omega)
    · have e1 : IntKind.i64.wrap ((k : Int) + 1) = ((k + 1 : Nat) : Int) := wrap_in (by omega) (by omega)
      simp only [e1, st_idxT]
      simp [hbs, St.lowers, St.lower, stLe, leEnv, leObs, obLe, injB, pinC, AV.leC, AV.leCs, PV.leC, PV.Le_v, St.get, St.obj, look, rho, isNew, keptC, renH, Mode.ok, Mode.isZ, PV.isVal, PV.isNilSl, List.all_nil, List.all_cons, List.any_nil, List.any_cons, List.map_nil, List.map_cons, PV.Le_self]
    · have : k = n := by omega
      subst this
      rw [colT_no hall]; simp
def in_l1C (nn : Bool) (n : Nat) (f : Nat → ByteArray) (s : ByteArray) := (G0, res110, ([] : List (Nat × Ob)), [Item.ir ir110], start [TL nn n f, AT s] [])
theorem ev_l1C : ∀ (nn : Bool) (n : Nat) (f : Nat → ByteArray) (s : ByteArray), ev G0 res110 [] (3000 : Nat) Or.nil [Item.ir ir110] (start [TL nn n f, AT s] []) = VC.loop ir110_L1 [Item.bend (0 : Nat), Item.ir ir110_T2] (St.mk [((0 : Nat), AV.p false (PV.sl nn (1 : Nat) n fun (i x : Nat) => PT (f i))), ((1 : Nat), AV.p true (PV.v (Value.string s))), ((4 : Nat), AV.p true (PV.v (Value.int IntKind.i64 (0 : Int)))), ((5 : Nat), AV.p true (PV.v (Value.int IntKind.i64 (0 : Int))))] []) := by intros; kernel_rfl
def st_l1C (nn : Bool) (n : Nat) (f : Nat → ByteArray) (s : ByteArray) (k : Nat) : St := ⟨[(0, TL nn n f), (1, AT s), (5, AI k)], []⟩
def r_l1C (nn : Bool) (n : Nat) (f : Nat → ByteArray) (s : ByteArray) (I : Nat → St → Prop) (k : Nat) := (G0, res110, ([] : List (Nat × Ob)), [Item.ir ir110_L1, .lend (I k), Item.bend 0, Item.ir ir110_T2], st_l1C nn n f s k)
theorem evr_l1C : ∀ (nn : Bool) (n : Nat) (f : Nat → ByteArray) (s : ByteArray) (I : Nat → St → Prop) (k : Nat), ev G0 res110 [] (3000 : Nat) ((Or.nil.split Or.nil).split Or.nil) [Item.ir ir110_L1, Item.lend (I k), Item.bend (0 : Nat), Item.ir ir110_T2] (st_l1C nn n f s k) = VC.split (decide ((↑k : Int) < (↑n : Int))) (VC.need ((0 : Int) ≤ (↑k : Int) ∧ (↑k : Int).toNat < n) (VC.split ((f (↑k : Int).toNat).toList == s.toList) (VC.doneP (AV.p true (PV.v (Value.int IntKind.i64 (↑k : Int))))) (VC.lend (I k) (St.mk [((0 : Nat), AV.p false (PV.sl nn (1 : Nat) n fun (i x : Nat) => PT (f i))), ((1 : Nat), AV.p true (PV.v (Value.string s))), ((5 : Nat), AV.p true (PV.v (Value.int IntKind.i64 (IntKind.i64.wrap ((↑k : Int) + (1 : Int)))))), ((9 : Nat), AV.p true (PV.v (Value.bool (decide ((↑k : Int) < (↑n : Int)))))), ((17 : Nat), AV.p true (PV.v (Value.bool ((f (↑k : Int).toNat).toList == s.toList))))] [])))) (VC.doneP (AV.p true (PV.v (Value.int IntKind.i64 (-1 : Int))))) := by intros; kernel_rfl
/-! ### the order -/
def ordL (c : Nat) (dn : Bool) (x y : List Int) : Int :=
  if x.getD c 0 = y.getD c 0 then lexL x y else if dn then cmp3 (y.getD c 0) (x.getD c 0) else cmp3 (x.getD c 0) (y.getD c 0)
def keyO (c : Nat) (dn : Bool) (x : List Int) : Int := if dn then - x.getD c 0 else x.getD c 0
def ltO (c : Nat) (dn : Bool) (x y : List Int) : Bool := decide (ordL c dn x y < 0)
theorem ltO_iff (c : Nat) (dn : Bool) (x y : List Int) : ltO c dn x y = true ↔ (keyO c dn x < keyO c dn y ∨ (keyO c dn x = keyO c dn y ∧ ltL x y = true)) := by
  unfold ltO ltL
  rw [decide_eq_true_iff, decide_eq_true_iff]
  unfold ordL keyO cmp3
  generalize x.getD c 0 = a
  generalize y.getD c 0 = b
  cases dn <;> simp only [if_true, Bool.false_eq_true, if_false] <;> split <;> (try split) <;> (try split) <;> omega
theorem ltO_ff (c : Nat) (dn : Bool) (x y : List Int) : ltO c dn x y = false ↔ (keyO c dn y < keyO c dn x ∨ (keyO c dn x = keyO c dn y ∧ ltL x y = false)) := by
  have h := ltO_iff c dn x y
  cases h1 : ltO c dn x y with
  | true =>
    have h2 := h.1 h1
    refine ⟨fun h => (by cases h), fun h3 => ?_⟩
    rcases h2 with h2 | ⟨h2, h4⟩ <;> rcases h3 with h3 | ⟨h3, h5⟩
    · omega
    · omega
    · omega
    · rw [h4] at h5; cases h5
  | false =>
    refine ⟨fun _ => ?_, fun _ => rfl⟩
    have h2 : ¬ (keyO c dn x < keyO c dn y ∨ (keyO c dn x = keyO c dn y ∧ ltL x y = true)) := fun h3 => by rw [h.2 h3] at h1; cases h1
    by_cases h3 : keyO c dn y < keyO c dn x
    · exact .inl h3
    · have h4 : keyO c dn x = keyO c dn y := by
        have : ¬ keyO c dn x < keyO c dn y := fun h => h2 (.inl h)
        omega
      refine .inr ⟨h4, ?_⟩
      cases h5 : ltL x y with
      | false => rfl
      | true => exact absurd (.inr ⟨h4, h5⟩) h2
theorem ltO_swo (c : Nat) (dn : Bool) : Go.Sort.SWO (ltO c dn) where
  irrefl x := (ltO_ff c dn x x).2 (.inr ⟨rfl, lt_swo.irrefl x⟩)
  trans x y z h1 h2 := by
    rw [ltO_iff] at *
    rcases h1 with h1 | ⟨h1, h3⟩ <;> rcases h2 with h2 | ⟨h2, h4⟩
    · exact .inl (by omega)
    · exact .inl (by omega)
    · exact .inl (by omega)
    · exact .inr ⟨by omega, lt_swo.trans _ _ _ h3 h4⟩
  ntrans x y z h1 h2 := by
    rw [ltO_ff] at *
    rcases h1 with h1 | ⟨h1, h3⟩ <;> rcases h2 with h2 | ⟨h2, h4⟩
    · exact .inl (by omega)
    · exact .inl (by omega)
    · exact .inl (by omega)
    · exact .inr ⟨by omega, lt_swo.ntrans _ _ _ h3 h4⟩
theorem ltO_anti (c : Nat) (dn : Bool) (x y : List Int) (h1 : ltO c dn x y = false) (h2 : ltO c dn y x = false) : x = y := by
  rw [ltO_ff] at *
  rcases h1 with h1 | ⟨h1, h3⟩ <;> rcases h2 with h2 | ⟨h2, h4⟩
  · omega
  · omega
  · omega
  · exact lt_anti _ _ h3 h4
/-! ### comparing by a column -/
abbrev ordFn (c : Int) (dn : Bool) : AV := .cl 156 [] [.adr 0 0, .adr 1 0]
def in_rO (nn : Bool) (n : Nat) (f : Nat → ByteArray) (s : ByteArray) (dn : Bool) := (G0, res112, ([] : List (Nat × Ob)), [Item.ir ir112], start [TL nn n f, AT s, AB dn] [])
theorem ev_rO : ∀ (nn : Bool) (n : Nat) (f : Nat → ByteArray) (s : ByteArray) (dn : Bool), ev G0 res112 [] (3000 : Nat) (Or.call [] (AI (colT f s n)) [] Or.nil) [Item.ir ir112] (start [TL nn n f, AT s, AB dn] []) = VC.call (113 : Nat) [AV.p false (PV.sl nn (1 : Nat) n fun (i x : Nat) => PT (f i)), AV.p true (PV.v (Value.string s))] [] (AI (colT f s n)) [] (VC.done (St.mk [((0 : Nat), AV.p false (PV.sl nn (1 : Nat) n fun (i x : Nat) => PT (f i))), ((1 : Nat), AV.p true (PV.v (Value.string s))), ((2 : Nat), AV.p true (PV.v (Value.bool dn))), ((5 : Nat), AV.adr (5 : Nat) (0 : Nat)), ((6 : Nat), AV.cl (156 : Nat) [] [AV.adr (7 : Nat) (0 : Nat), AV.adr (5 : Nat) (0 : Nat)]), ((7 : Nat), AV.adr (7 : Nat) (0 : Nat))] [((5 : Nat), Ob.box [AV.p true (PV.v (Value.bool dn))]), ((7 : Nat), Ob.box [AV.p true (PV.v (Value.int IntKind.i64 (colT f s n)))])])) := by intros; kernel_rfl
def in_rO1 (n : Nat) (f : Nat → Int) (m : Nat) (g : Nat → Int) (c : Nat) (dn : Bool) := (G0, res156, ([] : List (Nat × Ob)), [Item.ir ir156], start [IL false n f, IL false m g, .p false (.pp 1 fun _ => PI c), .p false (.pp 1 fun _ => .v (.bool dn))] [])
theorem ev_rO1 : ∀ (n : Nat) (f : Nat → Int) (m : Nat) (g : Nat → Int) (c : Nat) (dn : Bool), ev G0 res156 [] (3000 : Nat) (((Or.call [] (AI (cmp3 (g (↑c : Int).toNat) (f (↑c : Int).toNat))) [] Or.nil).split (Or.call [] (AI (cmp3 (f (↑c : Int).toNat) (g (↑c : Int).toNat))) [] Or.nil)).split (Or.call [] (AI (lexL (rowL n f (0 : Nat)) (rowL m g (0 : Nat)))) [] Or.nil)).lit.lit.lit.lit.lit.lit.lit.lit.lit.lit [Item.ir ir156] (start [IL false n f, IL false m g, AV.p false (PV.pp (1 : Nat) fun (x : Nat) => PI (↑c : Int)), AV.p false (PV.pp (1 : Nat) fun (x : Nat) => PV.v (Value.bool dn))] []) = VC.need ((0 : Int) ≤ (↑c : Int) ∧ (↑c : Int).toNat < n) (VC.need ((0 : Int) ≤ (↑c : Int) ∧ (↑c : Int).toNat < m) (VC.split (f (↑c : Int).toNat != g (↑c : Int).toNat) (VC.split dn (VC.need ((0 : Int) ≤ (↑c : Int) ∧ (↑c : Int).toNat < m) (VC.need ((0 : Int) ≤ (↑c : Int) ∧ (↑c : Int).toNat < n) (VC.call (151 : Nat) [AV.p true (PV.v (Value.int IntKind.i64 (g (↑c : Int).toNat))), AV.p true (PV.v (Value.int IntKind.i64 (f (↑c : Int).toNat)))] [] (AI (cmp3 (g (↑c : Int).toNat) (f (↑c : Int).toNat))) [] (VC.doneP (AV.p true (PV.v (Value.int IntKind.i64 (cmp3 (g (↑c : Int).toNat) (f (↑c : Int).toNat))))))))) (VC.need ((0 : Int) ≤ (↑c : Int) ∧ (↑c : Int).toNat < n) (VC.need ((0 : Int) ≤ (↑c : Int) ∧ (↑c : Int).toNat < m) (VC.call (151 : Nat) [AV.p true (PV.v (Value.int IntKind.i64 (f (↑c : Int).toNat))), AV.p true (PV.v (Value.int IntKind.i64 (g (↑c : Int).toNat)))] [] (AI (cmp3 (f (↑c : Int).toNat) (g (↑c : Int).toNat))) [] (VC.doneP (AV.p true (PV.v (Value.int IntKind.i64 (cmp3 (f (↑c : Int).toNat) (g (↑c : Int).toNat)))))))))) (VC.call (89 : Nat) [AV.p false (PV.sl false (1 : Nat) n fun (i x : Nat) => PI (f i)), AV.p false (PV.sl false (1 : Nat) m fun (i x : Nat) => PI (g i))] [] (AI (lexL (rowL n f (0 : Nat)) (rowL m g (0 : Nat)))) [] (VC.doneP (AV.p true (PV.v (Value.int IntKind.i64 (lexL (rowL n f (0 : Nat)) (rowL m g (0 : Nat)))))))))) := by intros; kernel_rfl
theorem c_rO (nn : Bool) (n : Nat) (f : Nat → ByteArray) (s : ByteArray) (dn : Bool) (hn : n ≤ 1048576) : PObj Tryd.prog G0 112 [TL nn n f, AT s, AB dn] [] (.cl 156 [] [.adr 0 0, .adr 1 0]) [(0, .box [AI (colT f s n)]), (1, .box [AB dn])] := by
  refine PObj.by chk112 rfl (ev_rO nn n f s dn) ?_
  simp only [VC.holds_split, VC.holds_need, VC.holds_doneP, VC.holds_done, VC.holds_either, VC.holds_call, VC.holds_callE, VC.holds_lend, VC.holds_stop, VC.holds_fail, decide_eq_true_eq, decide_eq_false_iff_not]
  refine ⟨c_ixT _ _ _ _ hn, ResOk.mk [] [(0, 7), (1, 5)] [] _ _ ?_ ⟨rfl, rfl⟩⟩
  simp [doneC, resOf, resAV, tup, pinR, PV.Le_self, hbs, St.lowers, St.lower, stLe, leEnv, leObs, obLe, injB, pinC, AV.leC, AV.leCs, PV.leC, PV.Le_v, St.get, St.obj, look, rho, isNew, keptC, renH, Mode.ok, Mode.isZ, PV.isVal, PV.isNilSl, List.all_nil, List.all_cons, List.any_nil, List.any_cons, List.map_nil, List.map_cons, res112, AV.leCs]
theorem c_rO1 (n : Nat) (f : Nat → Int) (m : Nat) (g : Nat → Int) (c : Nat) (dn : Bool) (hc : c < n) (hc' : c < m) (hn : n ≤ 1048576) : PRet Tryd.prog G0 156 [IL false n f, IL false m g, .p false (.pp 1 fun _ => PI c), .p false (.pp 1 fun _ => .v (.bool dn))] (AI (ordL c dn (rowL n f 0) (rowL m g 0))) := by
  refine PRet.by chk156 (ev_rO1 n f m g c dn) ?_
  simp only [VC.holds_split, VC.holds_need, VC.holds_doneP, VC.holds_done, VC.holds_either, VC.holds_call, VC.holds_callE, VC.holds_lend, VC.holds_stop, VC.holds_fail, decide_eq_true_eq, decide_eq_false_iff_not, Int.toNat_natCast]
  have e1 := rowL_get (f := f) hc
  have e2 := rowL_get (f := g) hc'
  refine ⟨by omega, by omega, fun h => ⟨fun h2 => ⟨by omega, by omega, c_cmp3 _ _, ?_⟩, fun h2 => ⟨by omega, by omega, c_cmp3 _ _, ?_⟩⟩, fun h => ⟨c_cmpI _ _ _ _ _ _ hn, ?_⟩⟩
  · have h3 : ¬ f c = g c := by simpa using h
    simp only [ordL, e1, e2]
    simp [h3, h2]
  · have h3 : ¬ f c = g c := by simpa using h
    simp only [ordL, e1, e2]
    simp [h3, h2]
  · have h3 : f c = g c := by simpa using h
    simp only [ordL, e1, e2]
    simp [h3]
theorem c_l1C (nn : Bool) (n : Nat) (f : Nat → ByteArray) (s : ByteArray) (hn : n ≤ 1048576) : PRet Tryd.prog G0 110 [TL nn n f, AT s] (AI (colT f s n)) := by
  refine PRet.by chk110 (ev_l1C nn n f s) ?_
  refine loop_by (st_l1C nn n f s) (fun k => k ≤ n ∧ ∀ j, j < k → (s.toList == (f j).toList) = false) (fun k => n - k) 0 [] [] [] (by simp) ?_ (evr_l1C nn n f s) fun k hk => ?_
  · simp [st_l1C, hbs, St.lowers, St.lower, stLe, leEnv, leObs, obLe, injB, pinC, AV.leC, AV.leCs, PV.leC, PV.Le_v, St.get, St.obj, look, rho, isNew, keptC, renH, Mode.ok, Mode.isZ, PV.isVal, PV.isNilSl, List.all_nil, List.all_cons, List.any_nil, List.any_cons, List.map_nil, List.map_cons, PV.Le_self]
  · obtain ⟨hk, hall⟩ := hk
    simp only [VC.holds_split, VC.holds_need, VC.holds_doneP, VC.holds_done, VC.holds_either, VC.holds_call, VC.holds_callE, VC.holds_lend, VC.holds_stop, VC.holds_fail, decide_eq_true_eq, decide_eq_false_iff_not, Int.toNat_natCast]
    refine ⟨fun h1 => ⟨by omega, fun h2 => ?_, fun h2 => Again.mk (k + 1) [] [] [] ⟨by omega, fun j hj => ?_⟩ (by omega) ?_⟩, fun h1 => ?_⟩
    · rw [colT_at (by rw [beq_swap]; exact h2) hall (by omega)]; simp
    · by_cases h3 : j = k
      · subst h3; rw [beq_swap]; exact h2
      · exact hall j (by omega)
    · have e1 : IntKind.i64.wrap ((k : Int) + 1) = ((k + 1 : Nat) : Int) := wrap_in (by omega) (by omega)
      simp only [e1, st_l1C]
      simp [hbs, St.lowers, St.lower, stLe, leEnv, leObs, obLe, injB, pinC, AV.leC, AV.leCs, PV.leC, PV.Le_v, St.get, St.obj, look, rho, isNew, keptC, renH, Mode.ok, Mode.isZ, PV.isVal, PV.isNilSl, List.all_nil, List.all_cons, List.any_nil, List.any_cons, List.map_nil, List.map_cons, PV.Le_self]
    · have : k = n := by omega
      subst this
      rw [colT_no hall]; simp
abbrev srtO (c : Nat) (dn : Bool) (m : Nat) (w : Nat → Nat) (h : Nat → Nat → Int) : List (List Int) := srtL (ltO c dn) (tabL m w h)
theorem c_sortB (nn : Bool) (m : Nat) (w : Nat → Nat) (h : Nat → Nat → Int) (c : Int) (dn : Bool) (hc0 : 0 ≤ c) (hc : ∀ i, i < m → c.toNat < w i) (hm : m ≤ 1048576) (hw : ∀ i, i < m → w i ≤ 1048576) :
    PObj Tryd.prog G0 88 [.own 0, .cl 156 [] [.adr 1 0, .adr 2 0]] [(0, .row .u nn 1 m (RR w h) []), (1, .box [AI c]), (2, .box [AB dn])] (.tp []) [(0, .row .u nn 1 m (RR (wL (srtO c.toNat dn m w h)) (hL (srtO c.toNat dn m w h))) []), (1, .box [AI c]), (2, .box [AB dn])] := by
  obtain ⟨c, rfl⟩ : ∃ k : Nat, c = k := ⟨c.toNat, by omega⟩
  rw [Int.toNat_natCast] at *
  refine sort_row (bs := [PI c, .v (.bool dn)]) (K := fun i => rowL (w i) (h i) 0) (cl := ordL c dn) Tryd.laySort sort_has (fun p cap fv W => AnyF.slices_SortFunc_none { Tryd.laySort with } p cap fv W) (ltO_swo c dn) (el := fun i => RR w h i 0) (fun x y hx hy => ?_) (fun i hi => ⟨_, _, rfl⟩) (by omega) (fun π hs => ⟨fun i => RR (wL (srtO c dn m w h)) (hL (srtO c dn m w h)) i 0, fun i hi => srt_le (ltO_swo c dn) (ltO_anti c dn) hs hi, rfl, rfl⟩)
  exact c_rO1 _ _ _ _ _ _ (hc x hx) (hc y hy) (hw x hx)
def in_imOR (n : Nat) (f : Nat → ByteArray) (m : Nat) (w : Nat → Nat) (h : Nat → Nat → Int) (s : ByteArray) (dn : Bool) := (G0, res44, ([] : List (Nat × Ob)), [Item.ir ir44], start [TA false false n f m w h, AT s, AB dn] [])
theorem ev_imOR : ∀ (n : Nat) (f : Nat → ByteArray) (m : Nat) (w : Nat → Nat) (h : Nat → Nat → Int) (s : ByteArray) (dn : Bool), ev G0 res44 [] (3000 : Nat) (Or.call [] (AB (tableB n f m w h)) [] (Or.nil.lit.lit.lit.lit.lit.lit.split (Or.call [] (AB (hasT f s n)) [] (Or.nil.split (Or.call [] taR (taH n f m w h) (Or.call [] (AV.cl (156 : FuncId) [] [AV.adr (0 : Nat) (0 : Nat), AV.adr (1 : Nat) (0 : Nat)]) [((0 : Nat), Ob.box [AI (colT f s n)]), ((1 : Nat), Ob.box [AB dn])] (Or.call [(2021 : Nat), (1028 : Nat), (2028 : Nat)] (AV.tp []) [((0 : Nat), Ob.row Mode.u false (1 : Nat) m (RR (wL (srtO (colT f s n).toNat dn m w h)) (hL (srtO (colT f s n).toNat dn m w h))) []), ((1 : Nat), Ob.box [AI (colT f s n)]), ((2 : Nat), Ob.box [AB dn])] Or.nil)))).lit.lit).lit.lit.lit)) [Item.ir ir44] (start [TA false false n f m w h, AT s, AB dn] []) = VC.call (37 : Nat) [AV.ag [AV.p false (PV.sl false (1 : Nat) n fun (i x : Nat) => PT (f i)), AV.p false (PV.sl false (1 : Nat) m (RR w h))]] [] (AB (tableB n f m w h)) [] (VC.split (!tableB n f m w h) (VC.done (St.mk [((0 : Nat), AV.ag [AV.p false (PV.sl false (1 : Nat) n fun (i x : Nat) => PT (f i)), AV.p false (PV.sl false (1 : Nat) m (RR w h))]), ((1 : Nat), AV.p true (PV.v (Value.string s))), ((2 : Nat), AV.p true (PV.v (Value.bool dn))), ((3 : Nat), AV.adr (3 : Nat) (0 : Nat)), ((6 : Nat), AV.adr (6 : Nat) (0 : Nat)), ((7 : Nat), AV.p true (PV.v (Value.bool false))), ((18 : Nat), AV.p true (PV.v (Value.bool true)))] [((3 : Nat), Ob.box [AV.p false (PV.sl false (1 : Nat) n fun (i x : Nat) => PT (f i)), AV.p false (PV.sl false (1 : Nat) m (RR w h))]), ((6 : Nat), Ob.box [AV.p true (PV.v (Value.slice none (0 : Nat) (0 : Nat))), AV.p true (PV.v (Value.slice none (0 : Nat) (0 : Nat)))])])) (VC.call (111 : Nat) [AV.p false (PV.sl false (1 : Nat) n fun (i x : Nat) => PT (f i)), AV.p true (PV.v (Value.string s))] [] (AB (hasT f s n)) [] (VC.split (!hasT f s n) (VC.done (St.mk [((0 : Nat), AV.ag [AV.p false (PV.sl false (1 : Nat) n fun (i x : Nat) => PT (f i)), AV.p false (PV.sl false (1 : Nat) m (RR w h))]), ((1 : Nat), AV.p true (PV.v (Value.string s))), ((2 : Nat), AV.p true (PV.v (Value.bool dn))), ((3 : Nat), AV.adr (3 : Nat) (0 : Nat)), ((6 : Nat), AV.adr (6 : Nat) (0 : Nat)), ((7 : Nat), AV.p true (PV.v (Value.bool false))), ((18 : Nat), AV.p true (PV.v (Value.bool !hasT f s n)))] [((3 : Nat), Ob.box [AV.p false (PV.sl false (1 : Nat) n fun (i x : Nat) => PT (f i)), AV.p false (PV.sl false (1 : Nat) m (RR w h))]), ((6 : Nat), Ob.box [AV.p true (PV.v (Value.slice none (0 : Nat) (0 : Nat))), AV.p true (PV.v (Value.slice none (0 : Nat) (0 : Nat)))])])) (VC.call (76 : Nat) [AV.ag [AV.p false (PV.sl false (1 : Nat) n fun (i x : Nat) => PT (f i)), AV.p false (PV.sl false (1 : Nat) m (RR w h))]] [] taR (taH n f m w h) (VC.call (112 : Nat) [AV.p false (PV.sl false (1 : Nat) n fun (i x : Nat) => PT (f i)), AV.p true (PV.v (Value.string s)), AV.p true (PV.v (Value.bool dn))] [] (AV.cl (156 : FuncId) [] [AV.adr (0 : Nat) (0 : Nat), AV.adr (1 : Nat) (0 : Nat)]) [((0 : Nat), Ob.box [AI (colT f s n)]), ((1 : Nat), Ob.box [AB dn])] (VC.call (88 : Nat) [AV.own (0 : Nat), AV.cl (156 : Nat) [] [AV.adr (1 : Nat) (0 : Nat), AV.adr (2 : Nat) (0 : Nat)]] [((0 : Nat), Ob.row Mode.u false (1 : Nat) m (RR w h) []), ((1 : Nat), Ob.box [AV.p true (PV.v (Value.int IntKind.i64 (colT f s n)))]), ((2 : Nat), Ob.box [AV.p true (PV.v (Value.bool dn))])] (AV.tp []) [((0 : Nat), Ob.row Mode.u false (1 : Nat) m (RR (wL (srtO (colT f s n).toNat dn m w h)) (hL (srtO (colT f s n).toNat dn m w h))) []), ((1 : Nat), Ob.box [AI (colT f s n)]), ((2 : Nat), Ob.box [AB dn])] (VC.done (St.mk [((0 : Nat), AV.ag [AV.p false (PV.sl false (1 : Nat) n fun (i x : Nat) => PT (f i)), AV.p false (PV.sl false (1 : Nat) m (RR w h))]), ((1 : Nat), AV.p true (PV.v (Value.string s))), ((2 : Nat), AV.p true (PV.v (Value.bool dn))), ((3 : Nat), AV.adr (3 : Nat) (0 : Nat)), ((6 : Nat), AV.adr (6 : Nat) (0 : Nat)), ((7 : Nat), AV.p true (PV.v (Value.bool true))), ((18 : Nat), AV.p true (PV.v (Value.bool !hasT f s n))), ((8 : Nat), AV.adr (8 : Nat) (0 : Nat))] [((3 : Nat), Ob.box [AV.p false (PV.sl false (1 : Nat) n fun (i x : Nat) => PT (f i)), AV.p false (PV.sl false (1 : Nat) m (RR w h))]), ((6 : Nat), Ob.box [AV.own (1021 : Nat), AV.own (2021 : Nat)]), ((1021 : Nat), Ob.row Mode.u false (1 : Nat) n (TR f) []), ((2021 : Nat), Ob.row Mode.u false (1 : Nat) m (RR (wL (srtO (colT f s n).toNat dn m w h)) (hL (srtO (colT f s n).toNat dn m w h))) []), ((8 : Nat), Ob.box [AV.own (1021 : Nat), AV.own (2021 : Nat)])])))))))) := by intros; kernel_rfl
theorem tab_w {n : Nat} {f : Nat → ByteArray} {m : Nat} {w : Nat → Nat} {h : Nat → Nat → Int} (ht : tableB n f m w h = true) : ∀ i, i < m → w i = n := fun i hi => by
  simp only [tableB, rowsB, Bool.and_eq_true] at ht
  have := allB_iff.1 ht.2 i hi
  simp only [rowB, Bool.and_eq_true, decide_eq_true_eq] at this
  exact this.1
def orB (n : Nat) (f : Nat → ByteArray) (m : Nat) (w : Nat → Nat) (h : Nat → Nat → Int) (s : ByteArray) : Bool := tableB n f m w h && decide (0 ≤ colT f s n)
def orN (n : Nat) (f : Nat → ByteArray) (m : Nat) (w : Nat → Nat) (h : Nat → Nat → Int) (s : ByteArray) : Nat := if orB n f m w h s then n else 0
def orM (n : Nat) (f : Nat → ByteArray) (m : Nat) (w : Nat → Nat) (h : Nat → Nat → Int) (s : ByteArray) : Nat := if orB n f m w h s then m else 0
def orS (n : Nat) (f : Nat → ByteArray) (m : Nat) (w : Nat → Nat) (h : Nat → Nat → Int) (s : ByteArray) (dn : Bool) : List (List Int) := srtO (colT f s n).toNat dn m w h
abbrev orR (n : Nat) (f : Nat → ByteArray) (m : Nat) (w : Nat → Nat) (h : Nat → Nat → Int) (s : ByteArray) : AV := .tp [taR, AB (orB n f m w h s)]
abbrev orH (n : Nat) (f : Nat → ByteArray) (m : Nat) (w : Nat → Nat) (h : Nat → Nat → Int) (s : ByteArray) (dn : Bool) : List (Nat × Ob) := taH (orN n f m w h s) f (orM n f m w h s) (wL (orS n f m w h s dn)) (hL (orS n f m w h s dn))
abbrev orF (n : Nat) (f : Nat → ByteArray) (m : Nat) (w : Nat → Nat) (h : Nat → Nat → Int) (s : ByteArray) (dn : Bool) : List (Nat × Ob) := taF (orN n f m w h s) f (orM n f m w h s) (wL (orS n f m w h s dn)) (hL (orS n f m w h s dn))
theorem or_no {n : Nat} {f : Nat → ByteArray} {m : Nat} {w : Nat → Nat} {h : Nat → Nat → Int} {s : ByteArray} (e : orB n f m w h s = false) : orN n f m w h s = 0 ∧ orM n f m w h s = 0 := by simp [orN, orM, e]
theorem or_yes {n : Nat} {f : Nat → ByteArray} {m : Nat} {w : Nat → Nat} {h : Nat → Nat → Int} {s : ByteArray} (e : orB n f m w h s = true) : orN n f m w h s = n ∧ orM n f m w h s = m := by simp [orN, orM, e]
theorem c_imOR (n : Nat) (f : Nat → ByteArray) (m : Nat) (w : Nat → Nat) (h : Nat → Nat → Int) (s : ByteArray) (dn : Bool) (ok : TaOk n f m w) : PObj Tryd.prog G0 44 [TA false false n f m w h, AT s, AB dn] [] (orR n f m w h s) (orH n f m w h s dn) := by
  refine PObj.by chk44 rfl (ev_imOR n f m w h s dn) ?_
  simp only [VC.holds_split, VC.holds_need, VC.holds_doneP, VC.holds_done, VC.holds_either, VC.holds_call, VC.holds_callE, VC.holds_lend, VC.holds_stop, VC.holds_fail, decide_eq_true_eq, decide_eq_false_iff_not]
  have hlt := colT_lt f s n
  refine ⟨c_imTV _ _ _ _ _ _ _ ok.hn ok.hf ok.hm ok.hw, fun h1 => ?_, fun h1 => ⟨c_hasT _ _ _ _ ok.hn, fun h2 => ?_, fun h2 => ?_⟩⟩
  · have e : orB n f m w h s = false := by simp only [Bool.not_eq_true'] at h1; simp [orB, h1]
    simp only [orR, orH, (or_no e).1, (or_no e).2, e]
    refine ResOk.mk [] [] [0, 1] _ _ ?_ ⟨rfl, rfl⟩
    simp [doneC, resOf, resAV, tup, pinR, PV.Le_self, hbs, St.lowers, St.lower, stLe, leEnv, leObs, obLe, injB, pinC, AV.leC, AV.leCs, PV.leC, PV.Le_v, St.get, St.obj, look, rho, isNew, keptC, renH, Mode.ok, Mode.isZ, PV.isVal, PV.isNilSl, List.all_nil, List.all_cons, List.any_nil, List.any_cons, List.map_nil, List.map_cons, res44]
  · have e : orB n f m w h s = false := by simp only [Bool.not_eq_true'] at h2; simp only [orB, colT_has, h2, Bool.and_false]
    simp only [orR, orH, (or_no e).1, (or_no e).2, e]
    refine ResOk.mk [] [] [0, 1] _ _ ?_ ⟨rfl, rfl⟩
    simp [doneC, resOf, resAV, tup, pinR, PV.Le_self, hbs, St.lowers, St.lower, stLe, leEnv, leObs, obLe, injB, pinC, AV.leC, AV.leCs, PV.leC, PV.Le_v, St.get, St.obj, look, rho, isNew, keptC, renH, Mode.ok, Mode.isZ, PV.isVal, PV.isNilSl, List.all_nil, List.all_cons, List.any_nil, List.any_cons, List.map_nil, List.map_cons, res44]
  · have ht : tableB n f m w h = true := by simpa using h1
    have hh : hasT f s n = true := by simpa using h2
    have e : orB n f m w h s = true := by simp only [orB, colT_has, hh, ht, Bool.and_self]
    have h0 : 0 ≤ colT f s n := by rw [← colT_has] at hh; simpa using hh
    refine ⟨c_clA _ _ _ _ _ ok.hn ok.hm ok.hw, c_rO _ _ _ _ _ ok.hn, c_sortB _ _ _ _ _ _ h0 (fun i hi => by rw [tab_w ht i hi]; omega) ok.hm ok.hw, ?_⟩
    simp only [orR, orH, (or_yes e).1, (or_yes e).2, e, orS]
    refine ResOk.mk [] [(0, 1021), (1, 2021)] [] _ _ ?_ ⟨rfl, rfl⟩
    simp [doneC, resOf, resAV, tup, pinR, PV.Le_self, hbs, St.lowers, St.lower, stLe, leEnv, leObs, obLe, injB, pinC, AV.leC, AV.leCs, PV.leC, PV.Le_v, St.get, St.obj, look, rho, isNew, keptC, renH, Mode.ok, Mode.isZ, PV.isVal, PV.isNilSl, List.all_nil, List.all_cons, List.any_nil, List.any_cons, List.map_nil, List.map_cons, res44]
/-! ### the model's -/
def in_ownR (nn : Bool) (m : Nat) (w : Nat → Nat) (h : Nat → Nat → Int) := (G0, res155, ([] : List (Nat × Ob)), [Item.ir ir155], start [RL nn m w h] [])
theorem ev_ownR : ∀ (nn : Bool) (m : Nat) (w : Nat → Nat) (h : Nat → Nat → Int), ev G0 res155 [] (3000 : Nat) Or.nil [Item.ir ir155] (start [RL nn m w h] []) = VC.loop ir155_L1 [Item.bend (0 : Nat), Item.ir ir155_T2] (St.mk [((0 : Nat), AV.p false (PV.sl nn (1 : Nat) m (RR w h))), ((2 : Nat), AV.p true (PV.v (Value.slice none (0 : Nat) (0 : Nat)))), ((3 : Nat), AV.own (5 : Nat)), ((4 : Nat), AV.p true (PV.v (Value.int IntKind.i64 (0 : Int))))] [((5 : Nat), Ob.row Mode.u true (1 : Nat) (0 : Nat) (setG [] fun (x j : Nat) => PV.v ([Value.slice none (0 : Nat) (0 : Nat)].getD j undef)) [])]) := by intros; kernel_rfl
def st_ownR (nn : Bool) (m : Nat) (w : Nat → Nat) (h : Nat → Nat → Int) (k : Nat) : St := ⟨[(0, RL nn m w h), (3, .own 5), (4, AI k)], [(5, .row .u false 1 k (RR w h) [])]⟩
def r_ownR (nn : Bool) (m : Nat) (w : Nat → Nat) (h : Nat → Nat → Int) (I : Nat → St → Prop) (k : Nat) := (G0, res155, ([] : List (Nat × Ob)), [Item.ir ir155_L1, .lend (I k), Item.bend 0, Item.ir ir155_T2], st_ownR nn m w h k)
theorem evr_ownR : ∀ (nn : Bool) (m : Nat) (w : Nat → Nat) (h : Nat → Nat → Int) (I : Nat → St → Prop) (k : Nat), ev G0 res155 [] (3000 : Nat) (Or.nil.split Or.nil) [Item.ir ir155_L1, Item.lend (I k), Item.bend (0 : Nat), Item.ir ir155_T2] (st_ownR nn m w h k) = VC.split (decide ((↑k : Int) < (↑m : Int))) (VC.need ((0 : Int) ≤ (↑k : Int) ∧ (↑k : Int).toNat < m) (VC.need ((((0 : Nat) + w (↑k : Int).toNat) * (8 : Nat) ≤ (140737488355328 : Nat) ∧ (↑((0 : Nat) + w (↑k : Int).toNat) : Int) ≤ (9223372036854775807 : Int)) ∧ allV (1 : Nat) (w (↑k : Int).toNat) fun (j x : Nat) => PI (h (↑k : Int).toNat j)) (VC.need (((k + (1 : Nat)) * (24 : Nat) ≤ (140737488355328 : Nat) ∧ (↑(k + (1 : Nat)) : Int) ≤ (9223372036854775807 : Int)) ∧ allOne (1 : Nat) (1 : Nat) (setG [((0 : Nat), (0 : Nat), PV.sl true (1 : Nat) ((0 : Nat) + w (↑k : Int).toNat) fun (a b : Nat) => if a < (0 : Nat) then setG [] (fun (x j : Nat) => PV.v ([Value.int IntKind.i64 (0 : Int)].getD j undef)) a b else PI (h (↑k : Int).toNat (a - (0 : Nat))))] fun (x j : Nat) => PV.v ([Value.slice none (0 : Nat) (0 : Nat)].getD j undef))) (VC.lend (I k) (St.mk [((0 : Nat), AV.p false (PV.sl nn (1 : Nat) m (RR w h))), ((3 : Nat), AV.own (20 : Nat)), ((4 : Nat), AV.p true (PV.v (Value.int IntKind.i64 (IntKind.i64.wrap ((↑k : Int) + (1 : Int)))))), ((9 : Nat), AV.p true (PV.v (Value.bool (decide ((↑k : Int) < (↑m : Int))))))] [((20 : Nat), Ob.row Mode.u false (1 : Nat) (k + (1 : Nat)) (fun (a b : Nat) => if a < k then RR w h a b else setG [((0 : Nat), (0 : Nat), PV.sl true (1 : Nat) ((0 : Nat) + w (↑k : Int).toNat) fun (a_1 b_1 : Nat) => if a_1 < (0 : Nat) then setG [] (fun (x j : Nat) => PV.v ([Value.int IntKind.i64 (0 : Int)].getD j undef)) a_1 b_1 else PI (h (↑k : Int).toNat (a_1 - (0 : Nat))))] (fun (x j : Nat) => PV.v ([Value.slice none (0 : Nat) (0 : Nat)].getD j undef)) (a - k) b) [])]))))) (VC.done (St.mk [((0 : Nat), AV.p false (PV.sl nn (1 : Nat) m (RR w h))), ((3 : Nat), AV.own (5 : Nat)), ((4 : Nat), AV.p true (PV.v (Value.int IntKind.i64 (↑k : Int)))), ((9 : Nat), AV.p true (PV.v (Value.bool (decide ((↑k : Int) < (↑m : Int)))))), ((2 : Nat), AV.own (5 : Nat))] [((5 : Nat), Ob.row Mode.u false (1 : Nat) k (RR w h) [])])) := by intros; kernel_rfl
theorem c_ownR (nn : Bool) (m : Nat) (w : Nat → Nat) (h : Nat → Nat → Int) (hm : m ≤ 1048576) (hw : ∀ i, i < m → w i ≤ 1048576) : PObj Tryd.prog G0 155 [RL nn m w h] [] (.own 0) [(0, .row .u false 1 m (RR w h) [])] := by
  refine PObj.by chk155 rfl (ev_ownR nn m w h) ?_
  refine loop_by (st_ownR nn m w h) (fun k => k ≤ m) (fun k => m - k) 0 [] [] [] (by omega) ?_ (evr_ownR nn m w h) fun k hk => ?_
  · simp [st_ownR, hbs, St.lowers, St.lower, stLe, leEnv, leObs, obLe, injB, pinC, AV.leC, AV.leCs, PV.leC, PV.Le_v, St.get, St.obj, look, rho, isNew, keptC, renH, Mode.ok, Mode.isZ, PV.isVal, PV.isNilSl, List.all_nil, List.all_cons, List.any_nil, List.any_cons, List.map_nil, List.map_cons, PV.Le_self]
  · simp only [VC.holds_split, VC.holds_need, VC.holds_doneP, VC.holds_done, VC.holds_either, VC.holds_call, VC.holds_callE, VC.holds_lend, VC.holds_stop, VC.holds_fail, decide_eq_true_eq, decide_eq_false_iff_not, Int.toNat_natCast]
    refine ⟨fun h0 => ?_, fun h0 => ?_⟩
    · have hwk := hw k (by omega)
      refine ⟨by omega, ⟨by omega, fun _ _ _ _ => rfl⟩, ⟨by omega, ?_⟩, Again.mk (k + 1) [] [(5, 20)] [] (by omega) (by omega) ?_⟩
      · intro i j hi hj
        obtain rfl : i = 0 := by omega
        obtain rfl : j = 0 := by omega
        rfl
      · have : IntKind.i64.wrap ((k : Int) + 1) = ((k + 1 : Nat) : Int) := wrap_in (by omega) (by omega)
        simp [st_ownR, hbs, St.lowers, St.lower, stLe, leEnv, leObs, obLe, injB, pinC, AV.leC, AV.leCs, PV.leC, PV.Le_v, St.get, St.obj, look, rho, isNew, keptC, renH, Mode.ok, Mode.isZ, PV.isVal, PV.isNilSl, List.all_nil, List.all_cons, List.any_nil, List.any_cons, List.map_nil, List.map_cons, PV.Le_self, this]
        intro i hi
        by_cases h1 : i < k
        · simp [h1]; exact RR_le rfl (fun _ _ => rfl)
        · obtain rfl : i = k := by omega
          simp [setG, cellSet]
          exact .sl _ _ (fun e => (by cases e)) _ _ _ _ _ rfl fun j l hj hl => .refl _
    · have : k = m := by omega
      subst this
      refine ResOk.mk [] [(0, 5)] [] _ _ ?_ ⟨rfl, rfl⟩
      simp [doneC, resOf, resAV, tup, pinR, PV.Le_self, hbs, St.lowers, St.lower, stLe, leEnv, leObs, obLe, injB, pinC, AV.leC, AV.leCs, PV.leC, PV.Le_v, St.get, St.obj, look, rho, isNew, keptC, renH, Mode.ok, Mode.isZ, PV.isVal, PV.isNilSl, List.all_nil, List.all_cons, List.any_nil, List.any_cons, List.map_nil, List.map_cons, res155]
def in_ownT (n : Nat) (f : Nat → ByteArray) (m : Nat) (w : Nat → Nat) (h : Nat → Nat → Int) := (G0, res109, ([] : List (Nat × Ob)), [Item.ir ir109], start [TA false false n f m w h] [])
theorem ev_ownT : ∀ (n : Nat) (f : Nat → ByteArray) (m : Nat) (w : Nat → Nat) (h : Nat → Nat → Int), ev G0 res109 [] (3000 : Nat) (Or.call [] (AV.own (0 : Nat)) [((0 : Nat), Ob.row Mode.u false (1 : Nat) m (RR w h) [])] Or.nil) [Item.ir ir109] (start [TA false false n f m w h] []) = VC.need ((((0 : Nat) + n) * (16 : Nat) ≤ (140737488355328 : Nat) ∧ (↑((0 : Nat) + n) : Int) ≤ (9223372036854775807 : Int)) ∧ allV (1 : Nat) n fun (i x : Nat) => PT (f i)) (VC.call (155 : Nat) [AV.p false (PV.sl false (1 : Nat) m (RR w h))] [] (AV.own (0 : Nat)) [((0 : Nat), Ob.row Mode.u false (1 : Nat) m (RR w h) [])] (VC.done (St.mk [((0 : Nat), AV.ag [AV.p false (PV.sl false (1 : Nat) n fun (i x : Nat) => PT (f i)), AV.p false (PV.sl false (1 : Nat) m (RR w h))]), ((1 : Nat), AV.adr (1 : Nat) (0 : Nat)), ((2 : Nat), AV.adr (2 : Nat) (0 : Nat)), ((3 : Nat), AV.adr (3 : Nat) (0 : Nat))] [((1 : Nat), Ob.box [AV.p false (PV.sl false (1 : Nat) n fun (i x : Nat) => PT (f i)), AV.p false (PV.sl false (1 : Nat) m (RR w h))]), ((2 : Nat), Ob.box [AV.own (8 : Nat), AV.own (1012 : Nat)]), ((3 : Nat), Ob.box [AV.own (8 : Nat), AV.own (1012 : Nat)]), ((8 : Nat), Ob.row Mode.u true (1 : Nat) ((0 : Nat) + n) (fun (a b : Nat) => if a < (0 : Nat) then setG [] (fun (x j : Nat) => PV.v ([Value.string (ByteArray.mk #[])].getD j undef)) a b else PT (f (a - (0 : Nat)))) []), ((1012 : Nat), Ob.row Mode.u false (1 : Nat) m (RR w h) [])]))) := by intros; kernel_rfl
theorem c_ownT (n : Nat) (f : Nat → ByteArray) (m : Nat) (w : Nat → Nat) (h : Nat → Nat → Int) (hn : n ≤ 1048576) (hm : m ≤ 1048576) (hw : ∀ i, i < m → w i ≤ 1048576) : PObj Tryd.prog G0 109 [TA false false n f m w h] [] taR (taH n f m w h) := by
  refine PObj.by chk109 rfl (ev_ownT n f m w h) ?_
  simp only [VC.holds_split, VC.holds_need, VC.holds_doneP, VC.holds_done, VC.holds_either, VC.holds_call, VC.holds_callE, VC.holds_lend, VC.holds_stop, VC.holds_fail, decide_eq_true_eq, decide_eq_false_iff_not]
  refine ⟨⟨by omega, fun _ _ _ _ => rfl⟩, c_ownR _ _ _ _ hm hw, ResOk.mk [] [(0, 8), (1, 1012)] [] _ _ ?_ ⟨rfl, rfl⟩⟩
  simp [doneC, resOf, resAV, tup, pinR, PV.Le_self, hbs, St.lowers, St.lower, stLe, leEnv, leObs, obLe, injB, pinC, AV.leC, AV.leCs, PV.leC, PV.Le_v, St.get, St.obj, look, rho, isNew, keptC, renH, Mode.ok, Mode.isZ, PV.isVal, PV.isNilSl, List.all_nil, List.all_cons, List.any_nil, List.any_cons, List.map_nil, List.map_cons, res109]
def in_spOR (n : Nat) (f : Nat → ByteArray) (m : Nat) (w : Nat → Nat) (h : Nat → Nat → Int) (s : ByteArray) (dn : Bool) := (G0, res45, ([] : List (Nat × Ob)), [Item.ir ir45], start [TA false false n f m w h, AT s, AB dn] [])
theorem ev_spOR : ∀ (n : Nat) (f : Nat → ByteArray) (m : Nat) (w : Nat → Nat) (h : Nat → Nat → Int) (s : ByteArray) (dn : Bool), ev G0 res45 [] (3000 : Nat) (Or.call [] taR (taH n f m w h) (Or.call [] (AB (tableB n f m w h)) [] (Or.nil.lit.lit.lit.lit.lit.lit.split (Or.call [] (AI (colT f s n)) [] (Or.nil.split (Or.call [] (AI (colT f s n)) [] (Or.call [] taR (srF n f m w h) Or.nil))).lit.lit).lit.lit.lit))) [Item.ir ir45] (start [TA false false n f m w h, AT s, AB dn] []) = VC.call (109 : Nat) [AV.ag [AV.p false (PV.sl false (1 : Nat) n fun (i x : Nat) => PT (f i)), AV.p false (PV.sl false (1 : Nat) m (RR w h))]] [] taR (taH n f m w h) (VC.call (33 : Nat) [AV.ag [AV.p false (PV.sl false (1 : Nat) n (TR f)), AV.p false (PV.sl false (1 : Nat) m (RR w h))]] [] (AB (tableB n f m w h)) [] (VC.split (!tableB n f m w h) (VC.done (St.mk [((0 : Nat), AV.ag [AV.p false (PV.sl false (1 : Nat) n fun (i x : Nat) => PT (f i)), AV.p false (PV.sl false (1 : Nat) m (RR w h))]), ((1 : Nat), AV.p true (PV.v (Value.string s))), ((2 : Nat), AV.p true (PV.v (Value.bool dn))), ((3 : Nat), AV.adr (3 : Nat) (0 : Nat)), ((6 : Nat), AV.adr (6 : Nat) (0 : Nat)), ((7 : Nat), AV.p true (PV.v (Value.bool false))), ((25 : Nat), AV.p true (PV.v (Value.bool true)))] [((3 : Nat), Ob.box [AV.own (1015 : Nat), AV.own (2015 : Nat)]), ((6 : Nat), Ob.box [AV.p true (PV.v (Value.slice none (0 : Nat) (0 : Nat))), AV.p true (PV.v (Value.slice none (0 : Nat) (0 : Nat)))]), ((1015 : Nat), Ob.row Mode.u false (1 : Nat) n (TR f) []), ((2015 : Nat), Ob.row Mode.u false (1 : Nat) m (RR w h) [])])) (VC.call (110 : Nat) [AV.p false (PV.sl false (1 : Nat) n (TR f)), AV.p true (PV.v (Value.string s))] [] (AI (colT f s n)) [] (VC.split (decide (colT f s n < (0 : Int))) (VC.done (St.mk [((0 : Nat), AV.ag [AV.p false (PV.sl false (1 : Nat) n fun (i x : Nat) => PT (f i)), AV.p false (PV.sl false (1 : Nat) m (RR w h))]), ((1 : Nat), AV.p true (PV.v (Value.string s))), ((2 : Nat), AV.p true (PV.v (Value.bool dn))), ((3 : Nat), AV.adr (3 : Nat) (0 : Nat)), ((6 : Nat), AV.adr (6 : Nat) (0 : Nat)), ((7 : Nat), AV.p true (PV.v (Value.bool false))), ((25 : Nat), AV.p true (PV.v (Value.bool (decide (colT f s n < (0 : Int))))))] [((3 : Nat), Ob.box [AV.own (1015 : Nat), AV.own (2015 : Nat)]), ((6 : Nat), Ob.box [AV.p true (PV.v (Value.slice none (0 : Nat) (0 : Nat))), AV.p true (PV.v (Value.slice none (0 : Nat) (0 : Nat)))]), ((1015 : Nat), Ob.row Mode.u false (1 : Nat) n (TR f) []), ((2015 : Nat), Ob.row Mode.u false (1 : Nat) m (RR w h) [])])) (VC.call (110 : Nat) [AV.p false (PV.sl false (1 : Nat) n (TR f)), AV.p true (PV.v (Value.string s))] [] (AI (colT f s n)) [] (VC.call (32 : Nat) [AV.ag [AV.p false (PV.sl false (1 : Nat) n (TR f)), AV.p false (PV.sl false (1 : Nat) m (RR w h))]] [] taR (srF n f m w h) (VC.loop ir45_L3 [Item.bend (0 : Nat), Item.ir ir45_T4] (St.mk [((0 : Nat), AV.ag [AV.p false (PV.sl false (1 : Nat) n fun (i x : Nat) => PT (f i)), AV.p false (PV.sl false (1 : Nat) m (RR w h))]), ((1 : Nat), AV.p true (PV.v (Value.string s))), ((2 : Nat), AV.p true (PV.v (Value.bool dn))), ((3 : Nat), AV.adr (3 : Nat) (0 : Nat)), ((6 : Nat), AV.adr (6 : Nat) (0 : Nat)), ((7 : Nat), AV.p true (PV.v (Value.bool false))), ((25 : Nat), AV.p true (PV.v (Value.bool (decide (colT f s n < (0 : Int)))))), ((8 : Nat), AV.p true (PV.v (Value.int IntKind.i64 (colT f s n)))), ((9 : Nat), AV.adr (9 : Nat) (0 : Nat)), ((10 : Nat), AV.adr (10 : Nat) (0 : Nat)), ((11 : Nat), AV.p true (PV.v (Value.int IntKind.i64 (0 : Int))))] [((3 : Nat), Ob.box [AV.own (1015 : Nat), AV.own (2015 : Nat)]), ((6 : Nat), Ob.box [AV.p true (PV.v (Value.slice none (0 : Nat) (0 : Nat))), AV.p true (PV.v (Value.slice none (0 : Nat) (0 : Nat)))]), ((1015 : Nat), Ob.row Mode.u false (1 : Nat) n (TR f) []), ((2015 : Nat), Ob.row Mode.u false (1 : Nat) m (RR w h) []), ((1032 : Nat), Ob.row Mode.u false (1 : Nat) (srN n f m w h) (TR f) []), ((2032 : Nat), Ob.row Mode.f false (1 : Nat) (srM n f m w h) (RR (wL (srtA m w h)) (hL (srtA m w h))) []), ((9 : Nat), Ob.box [AV.own (1032 : Nat), AV.own (2032 : Nat)]), ((10 : Nat), Ob.box [AV.own (1032 : Nat), AV.p true (PV.v (Value.slice none (0 : Nat) (0 : Nat)))])])))))))) := by intros; kernel_rfl
abbrev nilT : AV := .p true (.v (.slice none 0 0))
def st_spOR (n : Nat) (f : Nat → ByteArray) (m : Nat) (A : List (List Int)) (c : Nat) (dn : Bool) (x : Nat × List (List Int)) : St := ⟨[(2, AB dn), (6, .adr 6 0), (8, AI c), (9, .adr 9 0), (10, .adr 10 0), (11, AI x.1)], [(6, .box [nilT, nilT]), (1032, .row .u false 1 n (TR f) []), (2032, .row .f false 1 m (RR (wL A) (hL A)) []), (9, .box [.own 1032, .own 2032]), (10, .box [.own 1032, .own 77]), (77, .row .f false 1 x.1 (RR (wL x.2) (hL x.2)) [])]⟩
def r_spOR (n : Nat) (f : Nat → ByteArray) (m : Nat) (A : List (List Int)) (c : Nat) (dn : Bool) (I : Nat × List (List Int) → St → Prop) (x : Nat × List (List Int)) := (G0, res45, ([] : List (Nat × Ob)), [Item.ir ir45_L3, .lend (I x), Item.bend 0, Item.ir ir45_T4], st_spOR n f m A c dn x)
theorem evr_spOR : ∀ (n : Nat) (f : Nat → ByteArray) (m : Nat) (A : List (List Int)) (c : Nat) (dn : Bool) (I : Nat × List (List Int) → St → Prop) (x : Nat × List (List Int)), ev G0 res45 [] (3000 : Nat) (Or.nil.split Or.nil) [Item.ir ir45_L3, Item.lend (I x), Item.bend (0 : Nat), Item.ir ir45_T4] (st_spOR n f m A c dn x) = VC.split (decide ((↑x.1 : Int) < (↑m : Int))) (VC.need ((0 : Int) ≤ (↑x.1 : Int) ∧ (↑x.1 : Int).toNat < m) (VC.need ((↑x.1 : Int).toNat < m) (VC.need (((x.1 + (1 : Nat)) * (24 : Nat) ≤ (140737488355328 : Nat) ∧ (↑(x.1 + (1 : Nat)) : Int) ≤ (9223372036854775807 : Int)) ∧ allOne (1 : Nat) (1 : Nat) (setG [((0 : Nat), (0 : Nat), PV.sl false (1 : Nat) (wL A (↑x.1 : Int).toNat) fun (j x_1 : Nat) => PI (hL A (↑x.1 : Int).toNat j))] fun (x_1 j : Nat) => PV.v ([Value.slice none (0 : Nat) (0 : Nat)].getD j undef))) (VC.loop ir45_L1 [Item.bend (2 : Nat), Item.bend (1 : Nat), Item.ir ir45_T2, Item.lend (I x), Item.bend (0 : Nat), Item.ir ir45_T4] (St.mk [((2 : Nat), AV.p true (PV.v (Value.bool dn))), ((6 : Nat), AV.adr (6 : Nat) (0 : Nat)), ((8 : Nat), AV.p true (PV.v (Value.int IntKind.i64 (↑c : Int)))), ((9 : Nat), AV.adr (9 : Nat) (0 : Nat)), ((10 : Nat), AV.adr (10 : Nat) (0 : Nat)), ((11 : Nat), AV.p true (PV.v (Value.int IntKind.i64 (↑x.1 : Int)))), ((40 : Nat), AV.p true (PV.v (Value.bool (decide ((↑x.1 : Int) < (↑m : Int)))))), ((12 : Nat), AV.p true (PV.sl false (1 : Nat) (wL A (↑x.1 : Int).toNat) fun (j x_1 : Nat) => PI (hL A (↑x.1 : Int).toNat j))), ((13 : Nat), AV.p true (PV.v (Value.int IntKind.i64 (IntKind.i64.wrap ((↑(x.1 + (1 : Nat)) : Int) - (1 : Int))))))] [((6 : Nat), Ob.box [AV.p true (PV.v (Value.slice none (0 : Nat) (0 : Nat))), AV.p true (PV.v (Value.slice none (0 : Nat) (0 : Nat)))]), ((1032 : Nat), Ob.row Mode.u false (1 : Nat) n (TR f) []), ((2032 : Nat), Ob.row Mode.f false (1 : Nat) m (RR (wL A) (hL A)) []), ((9 : Nat), Ob.box [AV.own (1032 : Nat), AV.own (2032 : Nat)]), ((10 : Nat), Ob.box [AV.own (1032 : Nat), AV.own (52 : Nat)]), ((52 : Nat), Ob.row Mode.f false (1 : Nat) (x.1 + (1 : Nat)) (fun (a b : Nat) => if a < x.1 then RR (wL x.2) (hL x.2) a b else setG [((0 : Nat), (0 : Nat), PV.sl false (1 : Nat) (wL A (↑x.1 : Int).toNat) fun (j x_1 : Nat) => PI (hL A (↑x.1 : Int).toNat j))] (fun (x_1 j : Nat) => PV.v ([Value.slice none (0 : Nat) (0 : Nat)].getD j undef)) (a - x.1) b) [])]))))) (VC.done (St.mk [((2 : Nat), AV.p true (PV.v (Value.bool dn))), ((6 : Nat), AV.adr (6 : Nat) (0 : Nat)), ((8 : Nat), AV.p true (PV.v (Value.int IntKind.i64 (↑c : Int)))), ((9 : Nat), AV.adr (9 : Nat) (0 : Nat)), ((10 : Nat), AV.adr (10 : Nat) (0 : Nat)), ((11 : Nat), AV.p true (PV.v (Value.int IntKind.i64 (↑x.1 : Int)))), ((40 : Nat), AV.p true (PV.v (Value.bool (decide ((↑x.1 : Int) < (↑m : Int)))))), ((7 : Nat), AV.p true (PV.v (Value.bool true)))] [((6 : Nat), Ob.box [AV.own (1032 : Nat), AV.own (77 : Nat)]), ((1032 : Nat), Ob.row Mode.u false (1 : Nat) n (TR f) []), ((2032 : Nat), Ob.row Mode.f false (1 : Nat) m (RR (wL A) (hL A)) []), ((9 : Nat), Ob.box [AV.own (1032 : Nat), AV.own (2032 : Nat)]), ((10 : Nat), Ob.box [AV.own (1032 : Nat), AV.own (77 : Nat)]), ((77 : Nat), Ob.row Mode.f false (1 : Nat) x.1 (RR (wL x.2) (hL x.2)) [])])) := by intros; kernel_rfl
def st_spOR2 (n : Nat) (f : Nat → ByteArray) (m : Nat) (A : List (List Int)) (c : Nat) (dn : Bool) (k : Nat) (T : Nat → List (List Int)) (j : Nat) : St := ⟨[(2, AB dn), (6, .adr 6 0), (8, AI c), (9, .adr 9 0), (10, .adr 10 0), (11, AI k), (12, FR (wL A k) (hL A k)), (13, AI j)], [(6, .box [nilT, nilT]), (1032, .row .u false 1 n (TR f) []), (2032, .row .f false 1 m (RR (wL A) (hL A)) []), (9, .box [.own 1032, .own 2032]), (10, .box [.own 1032, .own 52]), (52, .row .f false 1 (k + 1) (RR (wL (T j)) (hL (T j))) [])]⟩
def r_spOR2 (n : Nat) (f : Nat → ByteArray) (m : Nat) (A : List (List Int)) (c : Nat) (dn : Bool) (k : Nat) (T : Nat → List (List Int)) (I : Nat × List (List Int) → St → Prop) (x : Nat × List (List Int)) (J : Nat → St → Prop) (j : Nat) := (G0, res45, ([] : List (Nat × Ob)), [Item.ir ir45_L1, .lend (J j), Item.bend 2, Item.bend 1, Item.ir ir45_T2, .lend (I x), Item.bend 0, Item.ir ir45_T4], st_spOR2 n f m A c dn k T j)
theorem evr_spOR2 : ∀ (n : Nat) (f : Nat → ByteArray) (m : Nat) (A : List (List Int)) (c : Nat) (dn : Bool) (k : Nat) (T : Nat → List (List Int)) (I : Nat × List (List Int) → St → Prop) (x : Nat × List (List Int)) (J : Nat → St → Prop) (j : Nat), ev G0 res45 [] (3000 : Nat) (((Or.nil.lit.lit.lit.lit.lit.lit.split ((Or.nil.split Or.nil).lit.lit.lit.lit.lit.lit.lit.lit.lit.lit.lit.lit.lit.lit.lit.lit.lit.lit.split Or.nil.lit.lit.lit.lit.lit.lit.lit.lit.lit.lit.lit.lit.lit.lit.lit.lit.lit.lit.lit).lit).lit.lit.lit.lit.lit.lit.lit.lit.lit.lit.lit.lit.lit.lit.lit.lit.split ((Or.nil.split Or.nil).lit.lit.lit.lit.lit.lit.lit.lit.lit.lit.lit.lit.lit.lit.lit.lit.lit.lit.split Or.nil.lit.lit.lit.lit.lit.lit.lit.lit.lit.lit.lit.lit.lit.lit.lit.lit.lit.lit.lit).lit.lit.lit.lit.lit.lit.lit.lit.lit.lit.lit.lit.lit.lit.lit.lit.lit.lit).lit.lit.split Or.nil.lit.lit.lit.lit.lit.lit.lit) [Item.ir ir45_L1, Item.lend (J j), Item.bend (2 : Nat), Item.bend (1 : Nat), Item.ir ir45_T2, Item.lend (I x), Item.bend (0 : Nat), Item.ir ir45_T4] (st_spOR2 n f m A c dn k T j) = VC.split (decide ((0 : Int) < (↑j : Int))) (VC.split (!dn) (VC.need ((0 : Int) ≤ (↑c : Int) ∧ (↑c : Int).toNat < wL A k) (VC.need ((0 : Int) ≤ IntKind.i64.wrap ((↑j : Int) - (1 : Int)) ∧ (IntKind.i64.wrap ((↑j : Int) - (1 : Int))).toNat < k + (1 : Nat)) (VC.need ((IntKind.i64.wrap ((↑j : Int) - (1 : Int))).toNat < k + (1 : Nat)) (VC.need ((0 : Int) ≤ (↑c : Int) ∧ (↑c : Int).toNat < wL (T j) (IntKind.i64.wrap ((↑j : Int) - (1 : Int))).toNat) (VC.split (decide (hL A k (↑c : Int).toNat < hL (T j) (IntKind.i64.wrap ((↑j : Int) - (1 : Int))).toNat (↑c : Int).toNat)) (VC.need ((0 : Int) ≤ IntKind.i64.wrap ((↑j : Int) - (1 : Int)) ∧ (IntKind.i64.wrap ((↑j : Int) - (1 : Int))).toNat < k + (1 : Nat)) (VC.need ((IntKind.i64.wrap ((↑j : Int) - (1 : Int))).toNat < k + (1 : Nat)) (VC.need ((0 : Int) ≤ (↑j : Int) ∧ (↑j : Int).toNat < k + (1 : Nat)) (VC.need ((↑j : Int).toNat < k + (1 : Nat)) (VC.need ((0 : Int) ≤ IntKind.i64.wrap ((↑j : Int) - (1 : Int)) ∧ (IntKind.i64.wrap ((↑j : Int) - (1 : Int))).toNat < k + (1 : Nat)) (VC.need ((IntKind.i64.wrap ((↑j : Int) - (1 : Int))).toNat < k + (1 : Nat)) (VC.lend (J j) (St.mk [((2 : Nat), AV.p true (PV.v (Value.bool dn))), ((6 : Nat), AV.adr (6 : Nat) (0 : Nat)), ((8 : Nat), AV.p true (PV.v (Value.int IntKind.i64 (↑c : Int)))), ((9 : Nat), AV.adr (9 : Nat) (0 : Nat)), ((10 : Nat), AV.adr (10 : Nat) (0 : Nat)), ((11 : Nat), AV.p true (PV.v (Value.int IntKind.i64 (↑k : Int)))), ((12 : Nat), AV.p true (PV.sl false (1 : Nat) (wL A k) fun (j_1 x_1 : Nat) => PI (hL A k j_1))), ((13 : Nat), AV.p true (PV.v (Value.int IntKind.i64 (IntKind.i64.wrap ((↑j : Int) - (1 : Int)))))), ((98 : Nat), AV.p true (PV.v (Value.bool true)))] [((6 : Nat), Ob.box [AV.p true (PV.v (Value.slice none (0 : Nat) (0 : Nat))), AV.p true (PV.v (Value.slice none (0 : Nat) (0 : Nat)))]), ((1032 : Nat), Ob.row Mode.u false (1 : Nat) n (TR f) []), ((2032 : Nat), Ob.row Mode.f false (1 : Nat) m (RR (wL A) (hL A)) []), ((9 : Nat), Ob.box [AV.own (1032 : Nat), AV.own (2032 : Nat)]), ((10 : Nat), Ob.box [AV.own (1032 : Nat), AV.own (52 : Nat)]), ((52 : Nat), Ob.row Mode.f false (1 : Nat) (k + (1 : Nat)) (setG [((IntKind.i64.wrap ((↑j : Int) - (1 : Int))).toNat, (0 : Nat), PV.sl false (1 : Nat) (wL A k) fun (j_1 x_1 : Nat) => PI (hL A k j_1))] (setG [((↑j : Int).toNat, (0 : Nat), PV.sl false (1 : Nat) (wL (T j) (IntKind.i64.wrap ((↑j : Int) - (1 : Int))).toNat) fun (j_1 x_1 : Nat) => PI (hL (T j) (IntKind.i64.wrap ((↑j : Int) - (1 : Int))).toNat j_1))] (RR (wL (T j)) (hL (T j))))) [])])))))))) (VC.split dn (VC.need ((0 : Int) ≤ (↑c : Int) ∧ (↑c : Int).toNat < wL A k) (VC.need ((0 : Int) ≤ IntKind.i64.wrap ((↑j : Int) - (1 : Int)) ∧ (IntKind.i64.wrap ((↑j : Int) - (1 : Int))).toNat < k + (1 : Nat)) (VC.need ((IntKind.i64.wrap ((↑j : Int) - (1 : Int))).toNat < k + (1 : Nat)) (VC.need ((0 : Int) ≤ (↑c : Int) ∧ (↑c : Int).toNat < wL (T j) (IntKind.i64.wrap ((↑j : Int) - (1 : Int))).toNat) (VC.split (decide (hL (T j) (IntKind.i64.wrap ((↑j : Int) - (1 : Int))).toNat (↑c : Int).toNat < hL A k (↑c : Int).toNat)) (VC.need ((0 : Int) ≤ IntKind.i64.wrap ((↑j : Int) - (1 : Int)) ∧ (IntKind.i64.wrap ((↑j : Int) - (1 : Int))).toNat < k + (1 : Nat)) (VC.need ((IntKind.i64.wrap ((↑j : Int) - (1 : Int))).toNat < k + (1 : Nat)) (VC.need ((0 : Int) ≤ (↑j : Int) ∧ (↑j : Int).toNat < k + (1 : Nat)) (VC.need ((↑j : Int).toNat < k + (1 : Nat)) (VC.need ((0 : Int) ≤ IntKind.i64.wrap ((↑j : Int) - (1 : Int)) ∧ (IntKind.i64.wrap ((↑j : Int) - (1 : Int))).toNat < k + (1 : Nat)) (VC.need ((IntKind.i64.wrap ((↑j : Int) - (1 : Int))).toNat < k + (1 : Nat)) (VC.lend (J j) (St.mk [((2 : Nat), AV.p true (PV.v (Value.bool dn))), ((6 : Nat), AV.adr (6 : Nat) (0 : Nat)), ((8 : Nat), AV.p true (PV.v (Value.int IntKind.i64 (↑c : Int)))), ((9 : Nat), AV.adr (9 : Nat) (0 : Nat)), ((10 : Nat), AV.adr (10 : Nat) (0 : Nat)), ((11 : Nat), AV.p true (PV.v (Value.int IntKind.i64 (↑k : Int)))), ((12 : Nat), AV.p true (PV.sl false (1 : Nat) (wL A k) fun (j_1 x_1 : Nat) => PI (hL A k j_1))), ((13 : Nat), AV.p true (PV.v (Value.int IntKind.i64 (IntKind.i64.wrap ((↑j : Int) - (1 : Int)))))), ((98 : Nat), AV.p true (PV.v (Value.bool (decide (hL (T j) (IntKind.i64.wrap ((↑j : Int) - (1 : Int))).toNat (↑c : Int).toNat < hL A k (↑c : Int).toNat)))))] [((6 : Nat), Ob.box [AV.p true (PV.v (Value.slice none (0 : Nat) (0 : Nat))), AV.p true (PV.v (Value.slice none (0 : Nat) (0 : Nat)))]), ((1032 : Nat), Ob.row Mode.u false (1 : Nat) n (TR f) []), ((2032 : Nat), Ob.row Mode.f false (1 : Nat) m (RR (wL A) (hL A)) []), ((9 : Nat), Ob.box [AV.own (1032 : Nat), AV.own (2032 : Nat)]), ((10 : Nat), Ob.box [AV.own (1032 : Nat), AV.own (52 : Nat)]), ((52 : Nat), Ob.row Mode.f false (1 : Nat) (k + (1 : Nat)) (setG [((IntKind.i64.wrap ((↑j : Int) - (1 : Int))).toNat, (0 : Nat), PV.sl false (1 : Nat) (wL A k) fun (j_1 x_1 : Nat) => PI (hL A k j_1))] (setG [((↑j : Int).toNat, (0 : Nat), PV.sl false (1 : Nat) (wL (T j) (IntKind.i64.wrap ((↑j : Int) - (1 : Int))).toNat) fun (j_1 x_1 : Nat) => PI (hL (T j) (IntKind.i64.wrap ((↑j : Int) - (1 : Int))).toNat j_1))] (RR (wL (T j)) (hL (T j))))) [])])))))))) (VC.lend (I x) (St.mk [((2 : Nat), AV.p true (PV.v (Value.bool dn))), ((6 : Nat), AV.adr (6 : Nat) (0 : Nat)), ((8 : Nat), AV.p true (PV.v (Value.int IntKind.i64 (↑c : Int)))), ((9 : Nat), AV.adr (9 : Nat) (0 : Nat)), ((10 : Nat), AV.adr (10 : Nat) (0 : Nat)), ((11 : Nat), AV.p true (PV.v (Value.int IntKind.i64 (IntKind.i64.wrap ((↑k : Int) + (1 : Int)))))), ((12 : Nat), AV.p true (PV.sl false (1 : Nat) (wL A k) fun (j_1 x_1 : Nat) => PI (hL A k j_1))), ((13 : Nat), AV.p true (PV.v (Value.int IntKind.i64 (↑j : Int)))), ((98 : Nat), AV.p true (PV.v (Value.bool (decide (hL (T j) (IntKind.i64.wrap ((↑j : Int) - (1 : Int))).toNat (↑c : Int).toNat < hL A k (↑c : Int).toNat)))))] [((6 : Nat), Ob.box [AV.p true (PV.v (Value.slice none (0 : Nat) (0 : Nat))), AV.p true (PV.v (Value.slice none (0 : Nat) (0 : Nat)))]), ((1032 : Nat), Ob.row Mode.u false (1 : Nat) n (TR f) []), ((2032 : Nat), Ob.row Mode.f false (1 : Nat) m (RR (wL A) (hL A)) []), ((9 : Nat), Ob.box [AV.own (1032 : Nat), AV.own (2032 : Nat)]), ((10 : Nat), Ob.box [AV.own (1032 : Nat), AV.own (52 : Nat)]), ((52 : Nat), Ob.row Mode.f false (1 : Nat) (k + (1 : Nat)) (RR (wL (T j)) (hL (T j))) [])]))))))) (VC.lend (I x) (St.mk [((2 : Nat), AV.p true (PV.v (Value.bool dn))), ((6 : Nat), AV.adr (6 : Nat) (0 : Nat)), ((8 : Nat), AV.p true (PV.v (Value.int IntKind.i64 (↑c : Int)))), ((9 : Nat), AV.adr (9 : Nat) (0 : Nat)), ((10 : Nat), AV.adr (10 : Nat) (0 : Nat)), ((11 : Nat), AV.p true (PV.v (Value.int IntKind.i64 (IntKind.i64.wrap ((↑k : Int) + (1 : Int)))))), ((12 : Nat), AV.p true (PV.sl false (1 : Nat) (wL A k) fun (j_1 x_1 : Nat) => PI (hL A k j_1))), ((13 : Nat), AV.p true (PV.v (Value.int IntKind.i64 (↑j : Int)))), ((98 : Nat), AV.p true (PV.v (Value.bool false)))] [((6 : Nat), Ob.box [AV.p true (PV.v (Value.slice none (0 : Nat) (0 : Nat))), AV.p true (PV.v (Value.slice none (0 : Nat) (0 : Nat)))]), ((1032 : Nat), Ob.row Mode.u false (1 : Nat) n (TR f) []), ((2032 : Nat), Ob.row Mode.f false (1 : Nat) m (RR (wL A) (hL A)) []), ((9 : Nat), Ob.box [AV.own (1032 : Nat), AV.own (2032 : Nat)]), ((10 : Nat), Ob.box [AV.own (1032 : Nat), AV.own (52 : Nat)]), ((52 : Nat), Ob.row Mode.f false (1 : Nat) (k + (1 : Nat)) (RR (wL (T j)) (hL (T j))) [])])))))))) (VC.split dn (VC.need ((0 : Int) ≤ (↑c : Int) ∧ (↑c : Int).toNat < wL A k) (VC.need ((0 : Int) ≤ IntKind.i64.wrap ((↑j : Int) - (1 : Int)) ∧ (IntKind.i64.wrap ((↑j : Int) - (1 : Int))).toNat < k + (1 : Nat)) (VC.need ((IntKind.i64.wrap ((↑j : Int) - (1 : Int))).toNat < k + (1 : Nat)) (VC.need ((0 : Int) ≤ (↑c : Int) ∧ (↑c : Int).toNat < wL (T j) (IntKind.i64.wrap ((↑j : Int) - (1 : Int))).toNat) (VC.split (decide (hL (T j) (IntKind.i64.wrap ((↑j : Int) - (1 : Int))).toNat (↑c : Int).toNat < hL A k (↑c : Int).toNat)) (VC.need ((0 : Int) ≤ IntKind.i64.wrap ((↑j : Int) - (1 : Int)) ∧ (IntKind.i64.wrap ((↑j : Int) - (1 : Int))).toNat < k + (1 : Nat)) (VC.need ((IntKind.i64.wrap ((↑j : Int) - (1 : Int))).toNat < k + (1 : Nat)) (VC.need ((0 : Int) ≤ (↑j : Int) ∧ (↑j : Int).toNat < k + (1 : Nat)) (VC.need ((↑j : Int).toNat < k + (1 : Nat)) (VC.need ((0 : Int) ≤ IntKind.i64.wrap ((↑j : Int) - (1 : Int)) ∧ (IntKind.i64.wrap ((↑j : Int) - (1 : Int))).toNat < k + (1 : Nat)) (VC.need ((IntKind.i64.wrap ((↑j : Int) - (1 : Int))).toNat < k + (1 : Nat)) (VC.lend (J j) (St.mk [((2 : Nat), AV.p true (PV.v (Value.bool dn))), ((6 : Nat), AV.adr (6 : Nat) (0 : Nat)), ((8 : Nat), AV.p true (PV.v (Value.int IntKind.i64 (↑c : Int)))), ((9 : Nat), AV.adr (9 : Nat) (0 : Nat)), ((10 : Nat), AV.adr (10 : Nat) (0 : Nat)), ((11 : Nat), AV.p true (PV.v (Value.int IntKind.i64 (↑k : Int)))), ((12 : Nat), AV.p true (PV.sl false (1 : Nat) (wL A k) fun (j_1 x_1 : Nat) => PI (hL A k j_1))), ((13 : Nat), AV.p true (PV.v (Value.int IntKind.i64 (IntKind.i64.wrap ((↑j : Int) - (1 : Int)))))), ((98 : Nat), AV.p true (PV.v (Value.bool (decide (hL (T j) (IntKind.i64.wrap ((↑j : Int) - (1 : Int))).toNat (↑c : Int).toNat < hL A k (↑c : Int).toNat)))))] [((6 : Nat), Ob.box [AV.p true (PV.v (Value.slice none (0 : Nat) (0 : Nat))), AV.p true (PV.v (Value.slice none (0 : Nat) (0 : Nat)))]), ((1032 : Nat), Ob.row Mode.u false (1 : Nat) n (TR f) []), ((2032 : Nat), Ob.row Mode.f false (1 : Nat) m (RR (wL A) (hL A)) []), ((9 : Nat), Ob.box [AV.own (1032 : Nat), AV.own (2032 : Nat)]), ((10 : Nat), Ob.box [AV.own (1032 : Nat), AV.own (52 : Nat)]), ((52 : Nat), Ob.row Mode.f false (1 : Nat) (k + (1 : Nat)) (setG [((IntKind.i64.wrap ((↑j : Int) - (1 : Int))).toNat, (0 : Nat), PV.sl false (1 : Nat) (wL A k) fun (j_1 x_1 : Nat) => PI (hL A k j_1))] (setG [((↑j : Int).toNat, (0 : Nat), PV.sl false (1 : Nat) (wL (T j) (IntKind.i64.wrap ((↑j : Int) - (1 : Int))).toNat) fun (j_1 x_1 : Nat) => PI (hL (T j) (IntKind.i64.wrap ((↑j : Int) - (1 : Int))).toNat j_1))] (RR (wL (T j)) (hL (T j))))) [])])))))))) (VC.lend (I x) (St.mk [((2 : Nat), AV.p true (PV.v (Value.bool dn))), ((6 : Nat), AV.adr (6 : Nat) (0 : Nat)), ((8 : Nat), AV.p true (PV.v (Value.int IntKind.i64 (↑c : Int)))), ((9 : Nat), AV.adr (9 : Nat) (0 : Nat)), ((10 : Nat), AV.adr (10 : Nat) (0 : Nat)), ((11 : Nat), AV.p true (PV.v (Value.int IntKind.i64 (IntKind.i64.wrap ((↑k : Int) + (1 : Int)))))), ((12 : Nat), AV.p true (PV.sl false (1 : Nat) (wL A k) fun (j_1 x_1 : Nat) => PI (hL A k j_1))), ((13 : Nat), AV.p true (PV.v (Value.int IntKind.i64 (↑j : Int)))), ((98 : Nat), AV.p true (PV.v (Value.bool (decide (hL (T j) (IntKind.i64.wrap ((↑j : Int) - (1 : Int))).toNat (↑c : Int).toNat < hL A k (↑c : Int).toNat)))))] [((6 : Nat), Ob.box [AV.p true (PV.v (Value.slice none (0 : Nat) (0 : Nat))), AV.p true (PV.v (Value.slice none (0 : Nat) (0 : Nat)))]), ((1032 : Nat), Ob.row Mode.u false (1 : Nat) n (TR f) []), ((2032 : Nat), Ob.row Mode.f false (1 : Nat) m (RR (wL A) (hL A)) []), ((9 : Nat), Ob.box [AV.own (1032 : Nat), AV.own (2032 : Nat)]), ((10 : Nat), Ob.box [AV.own (1032 : Nat), AV.own (52 : Nat)]), ((52 : Nat), Ob.row Mode.f false (1 : Nat) (k + (1 : Nat)) (RR (wL (T j)) (hL (T j))) [])]))))))) (VC.lend (I x) (St.mk [((2 : Nat), AV.p true (PV.v (Value.bool dn))), ((6 : Nat), AV.adr (6 : Nat) (0 : Nat)), ((8 : Nat), AV.p true (PV.v (Value.int IntKind.i64 (↑c : Int)))), ((9 : Nat), AV.adr (9 : Nat) (0 : Nat)), ((10 : Nat), AV.adr (10 : Nat) (0 : Nat)), ((11 : Nat), AV.p true (PV.v (Value.int IntKind.i64 (IntKind.i64.wrap ((↑k : Int) + (1 : Int)))))), ((12 : Nat), AV.p true (PV.sl false (1 : Nat) (wL A k) fun (j_1 x_1 : Nat) => PI (hL A k j_1))), ((13 : Nat), AV.p true (PV.v (Value.int IntKind.i64 (↑j : Int)))), ((98 : Nat), AV.p true (PV.v (Value.bool false)))] [((6 : Nat), Ob.box [AV.p true (PV.v (Value.slice none (0 : Nat) (0 : Nat))), AV.p true (PV.v (Value.slice none (0 : Nat) (0 : Nat)))]), ((1032 : Nat), Ob.row Mode.u false (1 : Nat) n (TR f) []), ((2032 : Nat), Ob.row Mode.f false (1 : Nat) m (RR (wL A) (hL A)) []), ((9 : Nat), Ob.box [AV.own (1032 : Nat), AV.own (2032 : Nat)]), ((10 : Nat), Ob.box [AV.own (1032 : Nat), AV.own (52 : Nat)]), ((52 : Nat), Ob.row Mode.f false (1 : Nat) (k + (1 : Nat)) (RR (wL (T j)) (hL (T j))) [])])))) (VC.lend (I x) (St.mk [((2 : Nat), AV.p true (PV.v (Value.bool dn))), ((6 : Nat), AV.adr (6 : Nat) (0 : Nat)), ((8 : Nat), AV.p true (PV.v (Value.int IntKind.i64 (↑c : Int)))), ((9 : Nat), AV.adr (9 : Nat) (0 : Nat)), ((10 : Nat), AV.adr (10 : Nat) (0 : Nat)), ((11 : Nat), AV.p true (PV.v (Value.int IntKind.i64 (IntKind.i64.wrap ((↑k : Int) + (1 : Int)))))), ((12 : Nat), AV.p true (PV.sl false (1 : Nat) (wL A k) fun (j_1 x_1 : Nat) => PI (hL A k j_1))), ((13 : Nat), AV.p true (PV.v (Value.int IntKind.i64 (↑j : Int)))), ((98 : Nat), AV.p true (PV.v (Value.bool false)))] [((6 : Nat), Ob.box [AV.p true (PV.v (Value.slice none (0 : Nat) (0 : Nat))), AV.p true (PV.v (Value.slice none (0 : Nat) (0 : Nat)))]), ((1032 : Nat), Ob.row Mode.u false (1 : Nat) n (TR f) []), ((2032 : Nat), Ob.row Mode.f false (1 : Nat) m (RR (wL A) (hL A)) []), ((9 : Nat), Ob.box [AV.own (1032 : Nat), AV.own (2032 : Nat)]), ((10 : Nat), Ob.box [AV.own (1032 : Nat), AV.own (52 : Nat)]), ((52 : Nat), Ob.row Mode.f false (1 : Nat) (k + (1 : Nat)) (RR (wL (T j)) (hL (T j))) [])])) := by intros; kernel_rfl
theorem take_snoc {A : List (List Int)} {k : Nat} (h : k < A.length) : A.take (k + 1) = A.take k ++ [A.getD k []] := by
  rw [List.take_succ_eq_append_getElem h]
  simp [List.getD_eq_getElem?_getD, h]
theorem c_spOR (n : Nat) (f : Nat → ByteArray) (m : Nat) (w : Nat → Nat) (h : Nat → Nat → Int) (s : ByteArray) (dn : Bool) (ok : TaOk n f m w) : PObj Tryd.prog G0 45 [TA false false n f m w h, AT s, AB dn] [] (orR n f m w h s) (orF n f m w h s dn) := by
  refine PObj.by chk45 rfl (ev_spOR n f m w h s dn) ?_
  simp only [VC.holds_split, VC.holds_need, VC.holds_doneP, VC.holds_done, VC.holds_either, VC.holds_call, VC.holds_callE, VC.holds_lend, VC.holds_stop, VC.holds_fail, decide_eq_true_eq, decide_eq_false_iff_not]
  have hlt := colT_lt f s n
  have hn := ok.hn
  have hm := ok.hm
  refine ⟨c_ownT _ _ _ _ _ ok.hn ok.hm ok.hw, c_spTV _ _ _ _ _ _ _ ok.hn ok.hf ok.hm ok.hw, fun h1 => ?_, fun h1 => ⟨c_l1C _ _ _ _ ok.hn, fun h2 => ?_, fun h2 => ⟨c_l1C _ _ _ _ ok.hn, c_spSR _ _ _ _ _ ok, ?_⟩⟩⟩
  · have e : orB n f m w h s = false := by simp only [Bool.not_eq_true'] at h1; simp [orB, h1]
    simp only [orR, orF, (or_no e).1, (or_no e).2, e]
    refine ResOk.mk [] [] [0, 1] _ _ ?_ ⟨rfl, rfl⟩
    simp [doneC, resOf, resAV, tup, pinR, PV.Le_self, hbs, St.lowers, St.lower, stLe, leEnv, leObs, obLe, injB, pinC, AV.leC, AV.leCs, PV.leC, PV.Le_v, St.get, St.obj, look, rho, isNew, keptC, renH, Mode.ok, Mode.isZ, PV.isVal, PV.isNilSl, List.all_nil, List.all_cons, List.any_nil, List.any_cons, List.map_nil, List.map_cons, res45]
  · have e : orB n f m w h s = false := by simp only [orB]; simp; intro _; omega
    simp only [orR, orF, (or_no e).1, (or_no e).2, e]
    refine ResOk.mk [] [] [0, 1] _ _ ?_ ⟨rfl, rfl⟩
    simp [doneC, resOf, resAV, tup, pinR, PV.Le_self, hbs, St.lowers, St.lower, stLe, leEnv, leObs, obLe, injB, pinC, AV.leC, AV.leCs, PV.leC, PV.Le_v, St.get, St.obj, look, rho, isNew, keptC, renH, Mode.ok, Mode.isZ, PV.isVal, PV.isNilSl, List.all_nil, List.all_cons, List.any_nil, List.any_cons, List.map_nil, List.map_cons, res45]
  · have ht : tableB n f m w h = true := by simpa using h1
    have h0 : 0 ≤ colT f s n := by omega
    have e : orB n f m w h s = true := by simp [orB, ht, h0]
    have eN : srN n f m w h = n := by simp [srN, ht]
    have eM : srM n f m w h = m := by simp [srM, ht]
    simp only [orR, orF, (or_yes e).1, (or_yes e).2, e, orS, eN, eM]
    obtain ⟨c, hcc⟩ : ∃ c : Nat, colT f s n = c := ⟨(colT f s n).toNat, by omega⟩
    simp only [hcc, Int.toNat_natCast] at hlt ⊢
    have hc : c < n := by omega
    have hAlen : (srtA m w h).length = m := srt_len m w h
    have hAp : (srtA m w h).Perm (tabL m w h) := srt_perm _
    have hAw : ∀ x, x ∈ srtA m w h → x.length = n := fun x hx => by
      have := hAp.mem_iff.1 hx
      simp only [tabL, List.mem_map, List.mem_range] at this
      obtain ⟨i, hi, rfl⟩ := this
      rw [rowL_len]; exact tab_w ht i hi
    have hAs : (srtA m w h).Pairwise fun x y => ltL y x = false := by
      have := List.pairwise_mergeSort (le := fun x y => !ltL y x) (fun x y z h1 h2 => by
        simp only [Bool.not_eq_true'] at h1 h2 ⊢
        exact lt_swo.ntrans _ _ _ h2 h1) (fun x y => by
        cases h3 : ltL y x with
        | false => simp
        | true =>
          cases h4 : ltL x y with
          | false => simp
          | true => have := lt_swo.trans _ _ _ h3 h4; rw [lt_swo.irrefl] at this; cases this) (tabL m w h)
      exact this.imp fun h => by simpa using h
    generalize hAdef : srtA m w h = A at *
    have getA : ∀ i, i < m → A.getD i [] ∈ A := fun i hi => by
      rw [List.getD_eq_getElem?_getD, List.getElem?_eq_getElem (by omega)]
      exact List.getElem_mem _
    refine loop_by (st_spOR n f m A c dn) (fun x => x.1 ≤ m ∧ x.2.Perm (A.take x.1) ∧ x.2.Pairwise fun a b => ltO c dn b a = false) (fun x => m - x.1) (0, []) [] [] [77] ⟨Nat.zero_le _, by simp, List.Pairwise.nil⟩ ?_ (evr_spOR n f m A c dn) fun x hx => ?_
    · simp [st_spOR, hbs, St.lowers, St.lower, stLe, leEnv, leObs, obLe, injB, pinC, AV.leC, AV.leCs, PV.leC, PV.Le_v, St.get, St.obj, look, rho, isNew, keptC, renH, Mode.ok, Mode.isZ, PV.isVal, PV.isNilSl, List.all_nil, List.all_cons, List.any_nil, List.any_cons, List.map_nil, List.map_cons, PV.Le_self]
    · obtain ⟨k, S⟩ := x
      obtain ⟨hk, hp, hs⟩ := hx
      simp only [] at hk hp hs
      have hSl : S.length = k := by rw [hp.length_eq, List.length_take]; omega
      simp only [VC.holds_split, VC.holds_need, VC.holds_doneP, VC.holds_done, VC.holds_either, VC.holds_call, VC.holds_callE, VC.holds_lend, VC.holds_stop, VC.holds_fail, decide_eq_true_eq, decide_eq_false_iff_not, Int.toNat_natCast]
      refine ⟨fun h3 => ⟨by omega, by omega, ⟨by omega, ?_⟩, ?_⟩, fun h3 => ?_⟩
      · intro i j hi hj
        obtain rfl : i = 0 := by omega
        obtain rfl : j = 0 := by omega
        rfl
      · have hkm : k < m := by omega
        let r := A.getD k []
        let T : Nat → List (List Int) := fun j => insT S r j
        have hrl : r.length = n := hAw _ (getA k hkm)
        have getS : ∀ i, i < k → S.getD i [] ∈ A.take k := fun i hi => by
          rw [List.getD_eq_getElem?_getD, List.getElem?_eq_getElem (by omega)]
          exact hp.mem_iff.1 (List.getElem_mem _)
        have hSw : ∀ i, i < k → (S.getD i []).length = n := fun i hi => hAw _ (List.mem_of_mem_take (getS i hi))
        have hSr : ∀ i, i < k → ltL r (S.getD i []) = false := fun i hi => by
          obtain ⟨a, ha, he⟩ := List.mem_iff_getElem.1 (getS i hi)
          have hak : a < k := by simp at ha; omega
          rw [List.getElem_take] at he
          have hr : r = A[k] := by simp only [r, List.getD_eq_getElem?_getD, List.getElem?_eq_getElem (show k < A.length by omega), Option.getD_some]
          rw [← he, hr]
          exact List.pairwise_iff_getElem.1 hAs a k (by omega) (by omega) hak
        have ek : IntKind.i64.wrap ((k : Int) + 1) = ((k + 1 : Nat) : Int) := wrap_in (by omega) (by omega)
        refine loop_by (st_spOR2 n f m A c dn k T) (fun j => j ≤ k ∧ ∀ i, j ≤ i → i < k → keyO c dn r < keyO c dn (S.getD i [])) (fun j => j) k [] [] [] ⟨Nat.le_refl _, fun i h3 h4 => by omega⟩ ?_ (fun J j => evr_spOR2 n f m A c dn k T _ _ J j) fun j hj => ?_
        · have e0 : IntKind.i64.wrap (k : Int) = k := wrap_in (by omega) (by omega)
          simp [st_spOR2, hbs, St.lowers, St.lower, stLe, leEnv, leObs, obLe, injB, pinC, AV.leC, AV.leCs, PV.leC, PV.Le_v, St.get, St.obj, look, rho, isNew, keptC, renH, Mode.ok, Mode.isZ, PV.isVal, PV.isNilSl, List.all_nil, List.all_cons, List.any_nil, List.any_cons, List.map_nil, List.map_cons, PV.Le_self, e0]
          intro i hi
          have h5 := insT_get (S := S) (r := r) (j := k) (by omega)
          by_cases h3 : i < k
          · simp only [h3, if_true]
            have h6 : (T k).getD i [] = S.getD i [] := by simp only [T, h5, h3, if_true]
            exact RR_le (by simp only [wL, h6]) fun j hj => by simp only [hL, h6]
          · obtain rfl : i = k := by omega
            have h6 : (T i).getD i [] = r := by simp only [T, h5, Nat.lt_irrefl, if_false, if_true]
            simp [setG, cellSet]
            exact sl_le (by simp only [wL, h6, r]) fun j hj => by rw [show hL (T i) i j = hL A i j by simp only [hL, h6, r]]; exact .refl _
        · obtain ⟨hj, hall⟩ := hj
          have fin : j ≤ k → (j = 0 ∨ ¬ keyO c dn r < keyO c dn (S.getD (j - 1) [])) → (T j).Perm (A.take (k + 1)) ∧ (T j).Pairwise fun a b => ltO c dn b a = false := fun h3 h4 =>
            ⟨by rw [take_snoc (by omega)]; exact (insT_perm S r j).trans ((hp.cons r).trans (List.perm_append_singleton r _).symm),
              insT_sorted (ltO_swo c dn) hs (by omega) (fun i h5 h6 => (ltO_iff _ _ _ _).2 (.inl (hall i h5 (by omega)))) (by
                by_cases h5 : j = 0
                · exact .inl h5
                · have h4 := h4.resolve_left h5
                  refine .inr ((ltO_ff _ _ _ _).2 ?_)
                  by_cases h6 : keyO c dn (S.getD (j - 1) []) < keyO c dn r
                  · exact .inl h6
                  · exact .inr ⟨by omega, hSr (j - 1) (by omega)⟩)⟩
          have hrc : hL A k c = r.getD c 0 := rfl
          have cells : 0 < j → ∀ i, PV.Le (setG [(j - 1, 0, PV.sl false 1 (wL A k) fun a _ => PI (hL A k a))] (setG [(j, 0, PV.sl false 1 (wL (T j) (j - 1)) fun a _ => PI (hL (T j) (j - 1) a))] (RR (wL (T j)) (hL (T j)))) i 0) (RR (wL (T (j - 1))) (hL (T (j - 1))) i 0) := fun h3 i => by
            have g1 := insT_get (S := S) (r := r) (j := j) (by omega)
            have g2 := insT_get (S := S) (r := r) (j := j - 1) (by omega)
            have hg : (T j).getD (j - 1) [] = S.getD (j - 1) [] := by simp only [T, g1]; rw [if_pos (by omega)]
            by_cases c1 : i = j - 1
            · have h6 : (T (j - 1)).getD i [] = r := by simp only [T, g2]; rw [if_neg (by omega), if_pos c1]
              simp only [setG, cellSet, c1, and_self, if_true, true_and]
              rw [c1] at h6
              exact sl_le (by simp only [wL, h6, r]) fun a ha => by rw [show hL (T (j - 1)) (j - 1) a = hL A k a by simp only [hL, h6, r]]; exact .refl _
            · by_cases c2 : i = j
              · subst c2
                have h6 : (T (i - 1)).getD i [] = (T i).getD (i - 1) [] := by simp only [T, g2, hg]; rw [if_neg (by omega), if_neg (by omega)]
                simp [setG, cellSet, c1]
                exact sl_le (by simp only [wL, h6]) fun a ha => by rw [show hL (T (i - 1)) i a = hL (T i) (i - 1) a by simp only [hL, h6]]; exact .refl _
              · have h6 : (T (j - 1)).getD i [] = (T j).getD i [] := by
                  simp only [T, g1, g2]
                  by_cases c3 : i < j - 1
                  · rw [if_pos c3, if_pos (by omega)]
                  · rw [if_neg c3, if_neg c1, if_neg (by omega), if_neg c2]
                simp [setG, cellSet, c1, c2]
                exact RR_le (by simp only [wL, h6]) fun a ha => by simp only [hL, h6]
          simp only [VC.holds_split, VC.holds_need, VC.holds_doneP, VC.holds_done, VC.holds_either, VC.holds_call, VC.holds_callE, VC.holds_lend, VC.holds_stop, VC.holds_fail, decide_eq_true_eq, decide_eq_false_iff_not, Int.toNat_natCast]
          refine ⟨fun h3 => ?_, fun h3 => ?_⟩
          · have e1 : IntKind.i64.wrap ((j : Int) - 1) = ((j - 1 : Nat) : Int) := (wrap_in (by omega) (by omega)).trans (by omega)
            have hj0 : 0 < j := by omega
            have hg : (T j).getD (j - 1) [] = S.getD (j - 1) [] := by simp only [T, insT_get (S := S) (r := r) (j := j) (by omega)]; rw [if_pos (by omega)]
            have hTc : hL (T j) (j - 1) c = (S.getD (j - 1) []).getD c 0 := by simp only [hL, hg]
            have hTw : wL (T j) (j - 1) = n := by simp only [wL, hg]; exact hSw _ (by omega)
            have hAk : wL A k = n := hrl
            simp only [e1, Int.toNat_natCast]
            refine ⟨fun h4 => ⟨⟨by omega, by omega⟩, ⟨by omega, by omega⟩, by omega, ⟨by omega, by omega⟩, fun h5 => ?_, fun h5 => ⟨fun h6 => ?_, fun h6 => ?_⟩⟩, fun h4 => ⟨fun h6 => ⟨⟨by omega, by omega⟩, ⟨by omega, by omega⟩, by omega, ⟨by omega, by omega⟩, fun h5 => ?_, fun h5 => ?_⟩, fun h6 => ?_⟩⟩
            · have hd : dn = false := by simpa using h4
              have hk1 : keyO c dn r < keyO c dn (S.getD (j - 1) []) := by simp only [keyO, hd]; simp only [hTc, hrc] at h5; exact h5
              refine ⟨by omega, by omega, by omega, by omega, by omega, by omega, Again.mk (j - 1) [] [] [] ⟨by omega, fun i h5 h6 => ?_⟩ (by omega) ?_⟩
              · by_cases h7 : i = j - 1
                · subst h7; exact hk1
                · exact hall i (by omega) h6
              · simp [st_spOR2, hbs, St.lowers, St.lower, stLe, leEnv, leObs, obLe, injB, pinC, AV.leC, AV.leCs, PV.leC, PV.Le_v, St.get, St.obj, look, rho, isNew, keptC, renH, Mode.ok, Mode.isZ, PV.isVal, PV.isNilSl, List.all_nil, List.all_cons, List.any_nil, List.any_cons, List.map_nil, List.map_cons, PV.Le_self]
                exact fun i hi => cells hj0 i
            · rw [h6] at h4; simp at h4
            · have hk2 : ¬ keyO c dn r < keyO c dn (S.getD (j - 1) []) := by simp only [keyO, h6]; simp only [hTc, hrc] at h5; exact h5
              obtain ⟨f1, f2⟩ := fin (by omega) (.inr hk2)
              refine Again.mk (k + 1, T j) [] [(77, 52)] [] ⟨by simp only []; omega, f1, f2⟩ (by simp only []; omega) ?_
              simp [st_spOR, hbs, St.lowers, St.lower, stLe, leEnv, leObs, obLe, injB, pinC, AV.leC, AV.leCs, PV.leC, PV.Le_v, St.get, St.obj, look, rho, isNew, keptC, renH, Mode.ok, Mode.isZ, PV.isVal, PV.isNilSl, List.all_nil, List.all_cons, List.any_nil, List.any_cons, List.map_nil, List.map_cons, PV.Le_self, ek]
            · have hk1 : keyO c dn r < keyO c dn (S.getD (j - 1) []) := by simp only [keyO, h6, if_true]; simp only [hTc, hrc] at h5; omega
              refine ⟨by omega, by omega, by omega, by omega, by omega, by omega, Again.mk (j - 1) [] [] [] ⟨by omega, fun i h5 h6 => ?_⟩ (by omega) ?_⟩
              · by_cases h7 : i = j - 1
                · subst h7; exact hk1
                · exact hall i (by omega) h6
              · simp [st_spOR2, hbs, St.lowers, St.lower, stLe, leEnv, leObs, obLe, injB, pinC, AV.leC, AV.leCs, PV.leC, PV.Le_v, St.get, St.obj, look, rho, isNew, keptC, renH, Mode.ok, Mode.isZ, PV.isVal, PV.isNilSl, List.all_nil, List.all_cons, List.any_nil, List.any_cons, List.map_nil, List.map_cons, PV.Le_self]
                exact fun i hi => cells hj0 i
            · have hk2 : ¬ keyO c dn r < keyO c dn (S.getD (j - 1) []) := by simp only [keyO, h6, if_true]; simp only [hTc, hrc] at h5; omega
              obtain ⟨f1, f2⟩ := fin (by omega) (.inr hk2)
              refine Again.mk (k + 1, T j) [] [(77, 52)] [] ⟨by simp only []; omega, f1, f2⟩ (by simp only []; omega) ?_
              simp [st_spOR, hbs, St.lowers, St.lower, stLe, leEnv, leObs, obLe, injB, pinC, AV.leC, AV.leCs, PV.leC, PV.Le_v, St.get, St.obj, look, rho, isNew, keptC, renH, Mode.ok, Mode.isZ, PV.isVal, PV.isNilSl, List.all_nil, List.all_cons, List.any_nil, List.any_cons, List.map_nil, List.map_cons, PV.Le_self, ek]
            · rw [h6] at h4; simp at h4
          · obtain ⟨f1, f2⟩ := fin (by omega) (.inl (by omega))
            refine Again.mk (k + 1, T j) [] [(77, 52)] [] ⟨by simp only []; omega, f1, f2⟩ (by simp only []; omega) ?_
            simp [st_spOR, hbs, St.lowers, St.lower, stLe, leEnv, leObs, obLe, injB, pinC, AV.leC, AV.leCs, PV.leC, PV.Le_v, St.get, St.obj, look, rho, isNew, keptC, renH, Mode.ok, Mode.isZ, PV.isVal, PV.isNilSl, List.all_nil, List.all_cons, List.any_nil, List.any_cons, List.map_nil, List.map_cons, PV.Le_self, ek]
      · have hkm : k = m := by omega
        subst hkm
        have hp' : S.Perm (tabL k w h) := by
          rw [List.take_of_length_le (by omega)] at hp
          exact hp.trans hAp
        have := srt_eq (ltO_swo c dn) (ltO_anti c dn) hp' hs
        subst this
        refine ResOk.mk [] [(0, 1032), (1, 77)] [] _ _ ?_ ⟨rfl, rfl⟩
        simp [doneC, resOf, resAV, tup, pinR, PV.Le_self, hbs, St.lowers, St.lower, stLe, leEnv, leObs, obLe, injB, pinC, AV.leC, AV.leCs, PV.leC, PV.Le_v, St.get, St.obj, look, rho, isNew, keptC, renH, Mode.ok, Mode.isZ, PV.isVal, PV.isNilSl, List.all_nil, List.all_cons, List.any_nil, List.any_cons, List.map_nil, List.map_cons, res45]
end Go.Gw
