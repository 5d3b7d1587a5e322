/- Memories: measured, copied, compared, written over, read again; with no condition. -/
import Derived.Test.YtmnfbiaelkdljaaMemR
import Derived.Test.YtmnfbiaelkdljaaInts2
import Derived.KernelRfl
namespace Go.Gw
open Go Go.Proofs
set_option linter.unusedSimpArgs false
set_option linter.unusedVariables false
set_option maxRecDepth 100000
def ir58 : Ir :=
  (.seq
  (.reg [] [o 4 (.mov (ci 0))])
  (.seq
  (.reg [5, 6, 7, 8] [o 5 (.mov (tt 1)),
    o 6 (.mov (tt 0)),
    o 7 (.len (tt 6)),
    o 8 (.bin .sub (tt 5) (tt 7)),
    o 1 (.mov (tt 8))])
  (.seq
  (.seq
  (.reg [9] [o 9 (.mov (tt 1)),
    o 10 (.bin .lss (tt 9) (ci 0))])
  (.cond (tt 10)
   (.seq
   (.reg [] [o 4 (.mov (ci (-1)))])
   .ret)
   .skip))
  (.seq
  (.reg [11] [o 11 (.mov (tt 1)),
    o 4 (.mov (tt 11))])
  .ret))))
def keep58 : List Nat := [0, 1, 4, 10]
def res58 : List RI := [.tmp 4]
theorem chk58 : chk Try.prog 58 2 keep58 = some (ir58, res58) := by kernel_rfl
def ir57_L1 : Ir :=
  (.seq
  (.seq
  (.reg [12, 13, 14] [o 12 (.mov (tt 5)),
    o 13 (.mov (tt 0)),
    o 14 (.len (tt 13)),
    o 15 (.bin .lss (tt 12) (tt 14))])
  (.cond (tt 15)
   .skip
   (.exit 0)))
  (.seq
  (.block 1
   (.seq
   (.reg [18, 19, 20, 21, 22, 23] [o 18 (.mov (tt 0)),
     o 19 (.mov (tt 5)),
     o 20 (.idx 1 (tt 18) (tt 19)),
     o 21 (.load false 1 (tt 20)),
     o 22 (.mov (tt 1)),
     o 23 (.call 58 [(tt 21), (tt 22)]),
     o 1 (.mov (tt 23))])
   (.seq
   (.reg [24] [o 24 (.mov (tt 1)),
     o 25 (.bin .lss (tt 24) (ci 0))])
   (.cond (tt 25)
    (.seq
    (.reg [] [o 4 (.mov (ci (-1)))])
    .ret)
    .skip))))
  (.reg [16, 17] [o 16 (.mov (tt 5)),
    o 17 (.bin .add (tt 16) (ci 1)),
    o 5 (.mov (tt 17))])))
def ir57_T2 : Ir :=
  (.seq
  (.reg [26] [o 26 (.mov (tt 1)),
    o 4 (.mov (tt 26))])
  .ret)
def ir57 : Ir :=
  (.seq
  (.reg [] [o 4 (.mov (ci 0))])
  (.seq
  (.reg [6, 7, 8, 9] [o 6 (.mov (tt 1)),
    o 7 (.mov (tt 0)),
    o 8 (.len (tt 7)),
    o 9 (.bin .sub (tt 6) (tt 8)),
    o 1 (.mov (tt 9))])
  (.seq
  (.seq
  (.reg [10] [o 10 (.mov (tt 1)),
    o 11 (.bin .lss (tt 10) (ci 0))])
  (.cond (tt 11)
   (.seq
   (.reg [] [o 4 (.mov (ci (-1)))])
   .ret)
   .skip))
  (.seq
  (.seq
  (.reg [] [o 5 (.mov (ci 0))])
  (.block 0
   (.loop ir57_L1)))
  ir57_T2))))
def keep57 : List Nat := [0, 1, 4, 5, 11, 15, 25]
def res57 : List RI := [.tmp 4]
theorem chk57 : chk Try.prog 57 2 keep57 = some (ir57, res57) := by kernel_rfl
def ir32 : Ir :=
  (.seq
  (.reg [] [o 2 (.box 2 (tt 0)),
    o 4 (.mov (ci 0))])
  (.seq
  (.reg [5, 6, 7, 8] [o 5 (.fadr 0 (tt 2)),
    o 6 (.load false 1 (tt 5)),
    o 7 (.mov (tt 1)),
    o 8 (.call 57 [(tt 6), (tt 7)]),
    o 1 (.mov (tt 8))])
  (.seq
  (.seq
  (.reg [9] [o 9 (.mov (tt 1)),
    o 10 (.bin .lss (tt 9) (ci 0))])
  (.cond (tt 10)
   (.seq
   (.reg [] [o 4 (.mov (ci (-1)))])
   .ret)
   .skip))
  (.seq
  (.reg [11, 12, 13, 14] [o 11 (.fadr 1 (tt 2)),
    o 12 (.load false 1 (tt 11)),
    o 13 (.mov (tt 1)),
    o 14 (.call 58 [(tt 12), (tt 13)]),
    o 1 (.mov (tt 14))])
  (.seq
  (.seq
  (.reg [15] [o 15 (.mov (tt 1)),
    o 16 (.bin .lss (tt 15) (ci 0))])
  (.cond (tt 16)
   (.seq
   (.reg [] [o 4 (.mov (ci (-1)))])
   .ret)
   .skip))
  (.seq
  (.reg [17] [o 17 (.mov (tt 1)),
    o 4 (.mov (tt 17))])
  .ret))))))
def keep32 : List Nat := [0, 1, 2, 4, 10, 16]
def res32 : List RI := [.tmp 4]
theorem chk32 : chk Try.prog 32 2 keep32 = some (ir32, res32) := by kernel_rfl
def ir84 : Ir :=
  (.seq
  (.reg [] [o 1 (.box 3 (tt 0)),
    o 2 (.alloc [(.int .i64 0), (.int .i64 0), (.int .i64 0)])])
  (.seq
  (.reg [] [o 3 (.alloc [(.int .i64 0), (.int .i64 0), (.int .i64 0)])])
  (.seq
  (.reg [4, 5, 6] [o 4 (.fadr 0 (tt 1)),
    o 5 (.load false 1 (tt 4)),
    o 6 (.fadr 0 (tt 3)),
    on (.store 1 (tt 6) (tt 5))])
  (.seq
  (.reg [7, 8, 9] [o 7 (.fadr 1 (tt 1)),
    o 8 (.load false 1 (tt 7)),
    o 9 (.fadr 1 (tt 3)),
    on (.store 1 (tt 9) (tt 8))])
  (.seq
  (.reg [10, 11, 12] [o 10 (.fadr 2 (tt 1)),
    o 11 (.load false 1 (tt 10)),
    o 12 (.fadr 2 (tt 3)),
    on (.store 1 (tt 12) (tt 11))])
  (.seq
  (.reg [13] [o 13 (.load true 3 (tt 3)),
    on (.store 3 (tt 2) (tt 13))])
  .ret))))))
def keep84 : List Nat := [0, 1, 2, 3]
def res84 : List RI := [.cell true 3 2]
theorem chk84 : chk Try.prog 84 1 keep84 = some (ir84, res84) := by kernel_rfl
def ir64_L1 : Ir :=
  (.seq
  (.seq
  (.reg [8, 9, 10] [o 8 (.mov (tt 4)),
    o 9 (.mov (tt 0)),
    o 10 (.len (tt 9)),
    o 11 (.bin .lss (tt 8) (tt 10))])
  (.cond (tt 11)
   .skip
   (.exit 0)))
  (.seq
  (.block 1
   (.reg [14, 15, 16, 17, 18, 19, 20, 21] [o 14 (.mov (tt 3)),
     o 15 (.mov (tt 4)),
     o 16 (.mov (tt 0)),
     o 17 (.mov (tt 4)),
     o 18 (.idx 3 (tt 16) (tt 17)),
     o 19 (.load true 3 (tt 18)),
     o 20 (.call 84 [(tt 19)]),
     o 21 (.idx 3 (tt 14) (tt 15)),
     on (.store 3 (tt 21) (tt 20))]))
  (.reg [12, 13] [o 12 (.mov (tt 4)),
    o 13 (.bin .add (tt 12) (ci 1)),
    o 4 (.mov (tt 13))])))
def ir64_T2 : Ir :=
  (.seq
  (.reg [22] [o 22 (.mov (tt 3)),
    o 2 (.mov (tt 22))])
  .ret)
def ir64 : Ir :=
  (.seq
  (.reg [] [o 2 (.mov (.const (.slice none 0 0)))])
  (.seq
  (.reg [5, 6, 7] [o 5 (.mov (tt 0)),
    o 6 (.len (tt 5)),
    o 7 (.mkSlc 3 24 [(.int .i64 0), (.int .i64 0), (.int .i64 0)] (tt 6) (tt 6)),
    o 3 (.mov (tt 7))])
  (.seq
  (.seq
  (.reg [] [o 4 (.mov (ci 0))])
  (.block 0
   (.loop ir64_L1)))
  ir64_T2)))
def keep64 : List Nat := [0, 2, 3, 4, 11]
def res64 : List RI := [.tmp 2]
theorem chk64 : chk Try.prog 64 1 keep64 = some (ir64, res64) := by kernel_rfl
def ir63_L1 : Ir :=
  (.seq
  (.seq
  (.reg [8, 9, 10] [o 8 (.mov (tt 4)),
    o 9 (.mov (tt 0)),
    o 10 (.len (tt 9)),
    o 11 (.bin .lss (tt 8) (tt 10))])
  (.cond (tt 11)
   .skip
   (.exit 0)))
  (.seq
  (.block 1
   (.reg [14, 15, 16, 17, 18, 19, 20, 21] [o 14 (.mov (tt 3)),
     o 15 (.mov (tt 4)),
     o 16 (.mov (tt 0)),
     o 17 (.mov (tt 4)),
     o 18 (.idx 1 (tt 16) (tt 17)),
     o 19 (.load false 1 (tt 18)),
     o 20 (.call 64 [(tt 19)]),
     o 21 (.idx 1 (tt 14) (tt 15)),
     on (.store 1 (tt 21) (tt 20))]))
  (.reg [12, 13] [o 12 (.mov (tt 4)),
    o 13 (.bin .add (tt 12) (ci 1)),
    o 4 (.mov (tt 13))])))
def ir63_T2 : Ir :=
  (.seq
  (.reg [22] [o 22 (.mov (tt 3)),
    o 2 (.mov (tt 22))])
  .ret)
def ir63 : Ir :=
  (.seq
  (.reg [] [o 2 (.mov (.const (.slice none 0 0)))])
  (.seq
  (.reg [5, 6, 7] [o 5 (.mov (tt 0)),
    o 6 (.len (tt 5)),
    o 7 (.mkSlc 1 24 [(.slice none 0 0)] (tt 6) (tt 6)),
    o 3 (.mov (tt 7))])
  (.seq
  (.seq
  (.reg [] [o 4 (.mov (ci 0))])
  (.block 0
   (.loop ir63_L1)))
  ir63_T2)))
def keep63 : List Nat := [0, 2, 3, 4, 11]
def res63 : List RI := [.tmp 2]
theorem chk63 : chk Try.prog 63 1 keep63 = some (ir63, res63) := by kernel_rfl
def ir34 : Ir :=
  (.seq
  (.reg [] [o 1 (.box 2 (tt 0)),
    o 2 (.alloc [(.slice none 0 0), (.slice none 0 0)])])
  (.seq
  (.reg [] [o 3 (.alloc [(.slice none 0 0), (.slice none 0 0)])])
  (.seq
  (.reg [4, 5, 6, 7] [o 4 (.fadr 0 (tt 1)),
    o 5 (.load false 1 (tt 4)),
    o 6 (.call 63 [(tt 5)]),
    o 7 (.fadr 0 (tt 3)),
    on (.store 1 (tt 7) (tt 6))])
  (.seq
  (.reg [8, 9, 10, 11] [o 8 (.fadr 1 (tt 1)),
    o 9 (.load false 1 (tt 8)),
    o 10 (.call 64 [(tt 9)]),
    o 11 (.fadr 1 (tt 3)),
    on (.store 1 (tt 11) (tt 10))])
  (.seq
  (.reg [12] [o 12 (.load true 2 (tt 3)),
    on (.store 2 (tt 2) (tt 12))])
  .ret)))))
def keep34 : List Nat := [0, 1, 2, 3]
def res34 : List RI := [.cell true 2 2]
theorem chk34 : chk Try.prog 34 1 keep34 = some (ir34, res34) := by kernel_rfl
def ir91 : Ir :=
  (.seq
  (.reg [] [o 2 (.box 3 (tt 0)),
    o 3 (.box 3 (tt 1)),
    o 4 (.mov (cb false))])
  (.seq
  (.seq
  (.reg [5, 6, 7, 8] [o 5 (.fadr 0 (tt 2)),
    o 6 (.load false 1 (tt 5)),
    o 7 (.fadr 0 (tt 3)),
    o 8 (.load false 1 (tt 7)),
    o 9 (.bin .neq (tt 6) (tt 8))])
  (.cond (tt 9)
   (.seq
   (.reg [] [o 4 (.mov (cb false))])
   .ret)
   .skip))
  (.seq
  (.seq
  (.reg [10, 11, 12, 13] [o 10 (.fadr 1 (tt 2)),
    o 11 (.load false 1 (tt 10)),
    o 12 (.fadr 1 (tt 3)),
    o 13 (.load false 1 (tt 12)),
    o 14 (.bin .neq (tt 11) (tt 13))])
  (.cond (tt 14)
   (.seq
   (.reg [] [o 4 (.mov (cb false))])
   .ret)
   .skip))
  (.seq
  (.seq
  (.reg [15, 16, 17, 18] [o 15 (.fadr 2 (tt 2)),
    o 16 (.load false 1 (tt 15)),
    o 17 (.fadr 2 (tt 3)),
    o 18 (.load false 1 (tt 17)),
    o 19 (.bin .neq (tt 16) (tt 18))])
  (.cond (tt 19)
   (.seq
   (.reg [] [o 4 (.mov (cb false))])
   .ret)
   .skip))
  (.seq
  (.reg [] [o 4 (.mov (cb true))])
  .ret)))))
def keep91 : List Nat := [0, 1, 2, 3, 4, 9, 14, 19]
def res91 : List RI := [.tmp 4]
theorem chk91 : chk Try.prog 91 2 keep91 = some (ir91, res91) := by kernel_rfl
def ir74_L1 : Ir :=
  (.seq
  (.seq
  (.reg [11, 12, 13] [o 11 (.mov (tt 5)),
    o 12 (.mov (tt 0)),
    o 13 (.len (tt 12)),
    o 14 (.bin .lss (tt 11) (tt 13))])
  (.cond (tt 14)
   .skip
   (.exit 0)))
  (.seq
  (.block 1
   (.seq
   (.dreg [17, 18, 19, 20, 21, 22, 23, 24, 25] [0, 0, 3, 7, 0, 0, 48, 112, 255, 511] [(3, 1020), (3, 2020), (3, 3020), (7, 1024), (7, 2024), (7, 3024), (8, 1025), (8, 2025), (8, 3025), (8, 4025), (8, 5025), (8, 6025), (8, 7025), (8, 8025)] [o 17 (.mov (tt 0)),
     o 18 (.mov (tt 5)),
     o 19 (.idx 3 (tt 17) (tt 18)),
     o 20 (.load true 3 (tt 19)),
     o 21 (.mov (tt 1)),
     o 22 (.mov (tt 5)),
     o 23 (.idx 3 (tt 21) (tt 22)),
     o 24 (.load true 3 (tt 23)),
     o 25 (.call 91 [(tt 20), (tt 24)]),
     o 26 (.un .not (tt 25))])
   (.cond (tt 26)
    (.seq
    (.reg [] [o 4 (.mov (cb false))])
    .ret)
    .skip)))
  (.reg [15, 16] [o 15 (.mov (tt 5)),
    o 16 (.bin .add (tt 15) (ci 1)),
    o 5 (.mov (tt 16))])))
def ir74_T2 : Ir :=
  (.seq
  (.reg [] [o 4 (.mov (cb true))])
  .ret)
def ir74 : Ir :=
  (.seq
  (.reg [] [o 4 (.mov (cb false))])
  (.seq
  (.seq
  (.reg [6, 7, 8, 9] [o 6 (.mov (tt 0)),
    o 7 (.len (tt 6)),
    o 8 (.mov (tt 1)),
    o 9 (.len (tt 8)),
    o 10 (.bin .neq (tt 7) (tt 9))])
  (.cond (tt 10)
   (.seq
   (.reg [] [o 4 (.mov (cb false))])
   .ret)
   .skip))
  (.seq
  (.seq
  (.reg [] [o 5 (.mov (ci 0))])
  (.block 0
   (.loop ir74_L1)))
  ir74_T2)))
def keep74 : List Nat := [0, 1, 4, 5, 10, 14, 26]
def res74 : List RI := [.tmp 4]
theorem chk74 : chk Try.prog 74 2 keep74 = some (ir74, res74) := by kernel_rfl
def ir73_L1 : Ir :=
  (.seq
  (.seq
  (.reg [11, 12, 13] [o 11 (.mov (tt 5)),
    o 12 (.mov (tt 0)),
    o 13 (.len (tt 12)),
    o 14 (.bin .lss (tt 11) (tt 13))])
  (.cond (tt 14)
   .skip
   (.exit 0)))
  (.seq
  (.block 1
   (.seq
   (.dreg [17, 18, 19, 20, 21, 22, 23, 24, 25] [0, 0, 3, 7, 0, 0, 48, 112, 255, 511] [(3, 1020), (7, 1024), (8, 1025), (8, 2025), (8, 3025), (8, 4025), (8, 5025), (8, 6025), (8, 7025), (8, 8025)] [o 17 (.mov (tt 0)),
     o 18 (.mov (tt 5)),
     o 19 (.idx 1 (tt 17) (tt 18)),
     o 20 (.load false 1 (tt 19)),
     o 21 (.mov (tt 1)),
     o 22 (.mov (tt 5)),
     o 23 (.idx 1 (tt 21) (tt 22)),
     o 24 (.load false 1 (tt 23)),
     o 25 (.call 74 [(tt 20), (tt 24)]),
     o 26 (.un .not (tt 25))])
   (.cond (tt 26)
    (.seq
    (.reg [] [o 4 (.mov (cb false))])
    .ret)
    .skip)))
  (.reg [15, 16] [o 15 (.mov (tt 5)),
    o 16 (.bin .add (tt 15) (ci 1)),
    o 5 (.mov (tt 16))])))
def ir73_T2 : Ir :=
  (.seq
  (.reg [] [o 4 (.mov (cb true))])
  .ret)
def ir73 : Ir :=
  (.seq
  (.reg [] [o 4 (.mov (cb false))])
  (.seq
  (.seq
  (.reg [6, 7, 8, 9] [o 6 (.mov (tt 0)),
    o 7 (.len (tt 6)),
    o 8 (.mov (tt 1)),
    o 9 (.len (tt 8)),
    o 10 (.bin .neq (tt 7) (tt 9))])
  (.cond (tt 10)
   (.seq
   (.reg [] [o 4 (.mov (cb false))])
   .ret)
   .skip))
  (.seq
  (.seq
  (.reg [] [o 5 (.mov (ci 0))])
  (.block 0
   (.loop ir73_L1)))
  ir73_T2)))
def keep73 : List Nat := [0, 1, 4, 5, 10, 14, 26]
def res73 : List RI := [.tmp 4]
theorem chk73 : chk Try.prog 73 2 keep73 = some (ir73, res73) := by kernel_rfl
def ir36 : Ir :=
  (.seq
  (.reg [] [o 2 (.box 2 (tt 0)),
    o 3 (.box 2 (tt 1)),
    o 4 (.mov (cb false))])
  (.seq
  (.seq
  (.reg [5, 6, 7, 8, 9] [o 5 (.fadr 0 (tt 2)),
    o 6 (.load false 1 (tt 5)),
    o 7 (.fadr 0 (tt 3)),
    o 8 (.load false 1 (tt 7)),
    o 9 (.call 73 [(tt 6), (tt 8)]),
    o 10 (.un .not (tt 9))])
  (.cond (tt 10)
   (.seq
   (.reg [] [o 4 (.mov (cb false))])
   .ret)
   .skip))
  (.seq
  (.seq
  (.reg [11, 12, 13, 14, 15] [o 11 (.fadr 1 (tt 2)),
    o 12 (.load false 1 (tt 11)),
    o 13 (.fadr 1 (tt 3)),
    o 14 (.load false 1 (tt 13)),
    o 15 (.call 74 [(tt 12), (tt 14)]),
    o 16 (.un .not (tt 15))])
  (.cond (tt 16)
   (.seq
   (.reg [] [o 4 (.mov (cb false))])
   .ret)
   .skip))
  (.seq
  (.reg [] [o 4 (.mov (cb true))])
  .ret))))
def keep36 : List Nat := [0, 1, 2, 3, 4, 10, 16]
def res36 : List RI := [.tmp 4]
theorem chk36 : chk Try.prog 36 2 keep36 = some (ir36, res36) := by kernel_rfl
def ir76_L1 : Ir :=
  (.seq
  (.seq
  (.reg [6, 7, 8] [o 6 (.mov (tt 5)),
    o 7 (.mov (tt 0)),
    o 8 (.len (tt 7)),
    o 9 (.bin .lss (tt 6) (tt 8))])
  (.cond (tt 9)
   .skip
   (.exit 0)))
  (.seq
  (.block 1
   (.seq
   (.reg [12, 13, 14, 15, 16] [o 12 (.mov (tt 0)),
     o 13 (.mov (tt 5)),
     o 14 (.mov (tt 1)),
     o 15 (.idx 3 (tt 12) (tt 13)),
     o 16 (.fadr 0 (tt 15)),
     on (.store 1 (tt 16) (tt 14))])
   (.seq
   (.reg [17, 18] [o 17 (.mov (tt 1)),
     o 18 (.bin .add (tt 17) (ci 1)),
     o 1 (.mov (tt 18))])
   (.seq
   (.reg [19, 20, 21, 22, 23] [o 19 (.mov (tt 0)),
     o 20 (.mov (tt 5)),
     o 21 (.mov (tt 1)),
     o 22 (.idx 3 (tt 19) (tt 20)),
     o 23 (.fadr 1 (tt 22)),
     on (.store 1 (tt 23) (tt 21))])
   (.seq
   (.reg [24, 25] [o 24 (.mov (tt 1)),
     o 25 (.bin .add (tt 24) (ci 1)),
     o 1 (.mov (tt 25))])
   (.seq
   (.reg [26, 27, 28, 29, 30] [o 26 (.mov (tt 0)),
     o 27 (.mov (tt 5)),
     o 28 (.mov (tt 1)),
     o 29 (.idx 3 (tt 26) (tt 27)),
     o 30 (.fadr 2 (tt 29)),
     on (.store 1 (tt 30) (tt 28))])
   (.reg [31, 32] [o 31 (.mov (tt 1)),
     o 32 (.bin .add (tt 31) (ci 1)),
     o 1 (.mov (tt 32))])))))))
  (.reg [10, 11] [o 10 (.mov (tt 5)),
    o 11 (.bin .add (tt 10) (ci 1)),
    o 5 (.mov (tt 11))])))
def ir76_T2 : Ir :=
  (.seq
  (.reg [33] [o 33 (.mov (tt 1)),
    o 4 (.mov (tt 33))])
  .ret)
def ir76 : Ir :=
  (.seq
  (.reg [] [o 4 (.mov (ci 0))])
  (.seq
  (.seq
  (.reg [] [o 5 (.mov (ci 0))])
  (.block 0
   (.loop ir76_L1)))
  ir76_T2))
def keep76 : List Nat := [0, 1, 4, 5, 9]
def res76 : List RI := [.tmp 4]
theorem chk76 : chk Try.prog 76 2 keep76 = some (ir76, res76) := by kernel_rfl
def ir75_L1 : Ir :=
  (.seq
  (.seq
  (.reg [6, 7, 8] [o 6 (.mov (tt 5)),
    o 7 (.mov (tt 0)),
    o 8 (.len (tt 7)),
    o 9 (.bin .lss (tt 6) (tt 8))])
  (.cond (tt 9)
   .skip
   (.exit 0)))
  (.seq
  (.block 1
   (.reg [12, 13, 14, 15, 16, 17] [o 12 (.mov (tt 0)),
     o 13 (.mov (tt 5)),
     o 14 (.idx 1 (tt 12) (tt 13)),
     o 15 (.load false 1 (tt 14)),
     o 16 (.mov (tt 1)),
     o 17 (.call 76 [(tt 15), (tt 16)]),
     o 1 (.mov (tt 17))]))
  (.reg [10, 11] [o 10 (.mov (tt 5)),
    o 11 (.bin .add (tt 10) (ci 1)),
    o 5 (.mov (tt 11))])))
def ir75_T2 : Ir :=
  (.seq
  (.reg [18] [o 18 (.mov (tt 1)),
    o 4 (.mov (tt 18))])
  .ret)
def ir75 : Ir :=
  (.seq
  (.reg [] [o 4 (.mov (ci 0))])
  (.seq
  (.seq
  (.reg [] [o 5 (.mov (ci 0))])
  (.block 0
   (.loop ir75_L1)))
  ir75_T2))
def keep75 : List Nat := [0, 1, 4, 5, 9]
def res75 : List RI := [.tmp 4]
theorem chk75 : chk Try.prog 75 2 keep75 = some (ir75, res75) := by kernel_rfl
def ir78_L1 : Ir :=
  (.seq
  (.seq
  (.reg [6, 7, 8] [o 6 (.mov (tt 5)),
    o 7 (.mov (tt 0)),
    o 8 (.len (tt 7)),
    o 9 (.bin .lss (tt 6) (tt 8))])
  (.cond (tt 9)
   .skip
   (.exit 0)))
  (.seq
  (.block 1
   (.seq
   (.seq
   (.reg [12, 13, 14, 15, 16, 17] [o 12 (.mov (tt 0)),
     o 13 (.mov (tt 5)),
     o 14 (.idx 3 (tt 12) (tt 13)),
     o 15 (.fadr 0 (tt 14)),
     o 16 (.load false 1 (tt 15)),
     o 17 (.mov (tt 1)),
     o 18 (.bin .neq (tt 16) (tt 17))])
   (.cond (tt 18)
    (.seq
    (.reg [] [o 4 (.mov (ci (-1)))])
    .ret)
    .skip))
   (.seq
   (.reg [19, 20] [o 19 (.mov (tt 1)),
     o 20 (.bin .add (tt 19) (ci 1)),
     o 1 (.mov (tt 20))])
   (.seq
   (.seq
   (.reg [21, 22, 23, 24, 25, 26] [o 21 (.mov (tt 0)),
     o 22 (.mov (tt 5)),
     o 23 (.idx 3 (tt 21) (tt 22)),
     o 24 (.fadr 1 (tt 23)),
     o 25 (.load false 1 (tt 24)),
     o 26 (.mov (tt 1)),
     o 27 (.bin .neq (tt 25) (tt 26))])
   (.cond (tt 27)
    (.seq
    (.reg [] [o 4 (.mov (ci (-1)))])
    .ret)
    .skip))
   (.seq
   (.reg [28, 29] [o 28 (.mov (tt 1)),
     o 29 (.bin .add (tt 28) (ci 1)),
     o 1 (.mov (tt 29))])
   (.seq
   (.seq
   (.reg [30, 31, 32, 33, 34, 35] [o 30 (.mov (tt 0)),
     o 31 (.mov (tt 5)),
     o 32 (.idx 3 (tt 30) (tt 31)),
     o 33 (.fadr 2 (tt 32)),
     o 34 (.load false 1 (tt 33)),
     o 35 (.mov (tt 1)),
     o 36 (.bin .neq (tt 34) (tt 35))])
   (.cond (tt 36)
    (.seq
    (.reg [] [o 4 (.mov (ci (-1)))])
    .ret)
    .skip))
   (.reg [37, 38] [o 37 (.mov (tt 1)),
     o 38 (.bin .add (tt 37) (ci 1)),
     o 1 (.mov (tt 38))])))))))
  (.reg [10, 11] [o 10 (.mov (tt 5)),
    o 11 (.bin .add (tt 10) (ci 1)),
    o 5 (.mov (tt 11))])))
def ir78_T2 : Ir :=
  (.seq
  (.reg [39] [o 39 (.mov (tt 1)),
    o 4 (.mov (tt 39))])
  .ret)
def ir78 : Ir :=
  (.seq
  (.reg [] [o 4 (.mov (ci 0))])
  (.seq
  (.seq
  (.reg [] [o 5 (.mov (ci 0))])
  (.block 0
   (.loop ir78_L1)))
  ir78_T2))
def keep78 : List Nat := [0, 1, 4, 5, 9, 18, 27, 36]
def res78 : List RI := [.tmp 4]
theorem chk78 : chk Try.prog 78 2 keep78 = some (ir78, res78) := by kernel_rfl
def ir77_L1 : Ir :=
  (.seq
  (.seq
  (.reg [6, 7, 8] [o 6 (.mov (tt 5)),
    o 7 (.mov (tt 0)),
    o 8 (.len (tt 7)),
    o 9 (.bin .lss (tt 6) (tt 8))])
  (.cond (tt 9)
   .skip
   (.exit 0)))
  (.seq
  (.block 1
   (.seq
   (.reg [12, 13, 14, 15, 16, 17] [o 12 (.mov (tt 0)),
     o 13 (.mov (tt 5)),
     o 14 (.idx 1 (tt 12) (tt 13)),
     o 15 (.load false 1 (tt 14)),
     o 16 (.mov (tt 1)),
     o 17 (.call 78 [(tt 15), (tt 16)]),
     o 1 (.mov (tt 17))])
   (.seq
   (.reg [18] [o 18 (.mov (tt 1)),
     o 19 (.bin .lss (tt 18) (ci 0))])
   (.cond (tt 19)
    (.seq
    (.reg [] [o 4 (.mov (ci (-1)))])
    .ret)
    .skip))))
  (.reg [10, 11] [o 10 (.mov (tt 5)),
    o 11 (.bin .add (tt 10) (ci 1)),
    o 5 (.mov (tt 11))])))
def ir77_T2 : Ir :=
  (.seq
  (.reg [20] [o 20 (.mov (tt 1)),
    o 4 (.mov (tt 20))])
  .ret)
def ir77 : Ir :=
  (.seq
  (.reg [] [o 4 (.mov (ci 0))])
  (.seq
  (.seq
  (.reg [] [o 5 (.mov (ci 0))])
  (.block 0
   (.loop ir77_L1)))
  ir77_T2))
def keep77 : List Nat := [0, 1, 4, 5, 9, 19]
def res77 : List RI := [.tmp 4]
theorem chk77 : chk Try.prog 77 2 keep77 = some (ir77, res77) := by kernel_rfl
def ir37 : Ir :=
  (.seq
  (.reg [] [o 2 (.box 2 (tt 0)),
    o 4 (.mov (ci 0))])
  (.seq
  (.reg [5, 6, 7, 8] [o 5 (.fadr 0 (tt 2)),
    o 6 (.load false 1 (tt 5)),
    o 7 (.mov (tt 1)),
    o 8 (.call 75 [(tt 6), (tt 7)]),
    o 1 (.mov (tt 8))])
  (.seq
  (.reg [9, 10, 11, 12] [o 9 (.fadr 1 (tt 2)),
    o 10 (.load false 1 (tt 9)),
    o 11 (.mov (tt 1)),
    o 12 (.call 76 [(tt 10), (tt 11)]),
    o 1 (.mov (tt 12))])
  (.seq
  (.reg [13] [o 13 (.mov (tt 1)),
    o 4 (.mov (tt 13))])
  .ret))))
def keep37 : List Nat := [0, 1, 2, 4]
def res37 : List RI := [.tmp 4]
theorem chk37 : chk Try.prog 37 2 keep37 = some (ir37, res37) := by kernel_rfl
def ir38 : Ir :=
  (.seq
  (.reg [] [o 2 (.box 2 (tt 0)),
    o 4 (.mov (ci 0))])
  (.seq
  (.reg [5, 6, 7, 8] [o 5 (.fadr 0 (tt 2)),
    o 6 (.load false 1 (tt 5)),
    o 7 (.mov (tt 1)),
    o 8 (.call 77 [(tt 6), (tt 7)]),
    o 1 (.mov (tt 8))])
  (.seq
  (.seq
  (.reg [9] [o 9 (.mov (tt 1)),
    o 10 (.bin .lss (tt 9) (ci 0))])
  (.cond (tt 10)
   (.seq
   (.reg [] [o 4 (.mov (ci (-1)))])
   .ret)
   .skip))
  (.seq
  (.reg [11, 12, 13, 14] [o 11 (.fadr 1 (tt 2)),
    o 12 (.load false 1 (tt 11)),
    o 13 (.mov (tt 1)),
    o 14 (.call 78 [(tt 12), (tt 13)]),
    o 1 (.mov (tt 14))])
  (.seq
  (.seq
  (.reg [15] [o 15 (.mov (tt 1)),
    o 16 (.bin .lss (tt 15) (ci 0))])
  (.cond (tt 16)
   (.seq
   (.reg [] [o 4 (.mov (ci (-1)))])
   .ret)
   .skip))
  (.seq
  (.reg [17] [o 17 (.mov (tt 1)),
    o 4 (.mov (tt 17))])
  .ret))))))
def keep38 : List Nat := [0, 1, 2, 4, 10, 16]
def res38 : List RI := [.tmp 4]
theorem chk38 : chk Try.prog 38 2 keep38 = some (ir38, res38) := by kernel_rfl

/-! ### sizes -/
def in_szBS (nn : Bool) (S : List Blk) (l : Int) := (G0, res58, ([] : List (Nat × Ob)), [Item.ir ir58], start [BS nn S, AI l] [])
theorem ev_szBS : ∀ (nn : Bool) (S : List Blk) (l : Int), ev G0 res58 [] (3000 : Nat) (Or.nil.split Or.nil) [Item.ir ir58] (start [BS nn S, AI l] []) = VC.split (decide (IntKind.i64.wrap (l - (↑S.length : Int)) < (0 : Int))) (VC.doneP (AV.p true (PV.v (Value.int IntKind.i64 (-1 : Int))))) (VC.doneP (AV.p true (PV.v (Value.int IntKind.i64 (IntKind.i64.wrap (l - (↑S.length : Int))))))) := by intros; kernel_rfl
theorem c_szBS (nn : Bool) (S : List Blk) (l : Int) (hS : S.length ≤ maxLen) (hl0 : 0 ≤ l) (hl : l ≤ 1048576) : PSome Try.prog G0 58 [BS nn S, AI l] [] Int (fun r => r = -1 ∨ (0 ≤ r ∧ r + S.length = l)) (fun r => AI r) (fun _ => []) := by
  refine PCall.by chk58 rfl (ev_szBS nn S l) ?_
  simp only [VC.holds_split, VC.holds_need, VC.holds_doneP, VC.holds_done, VC.holds_either, VC.holds_call, VC.holds_callE, VC.holds_lend, VC.holds_stop, VC.holds_fail, decide_eq_true_eq, decide_eq_false_iff_not]
  have hx : maxLen = 9223372036854775807 := rfl
  have w1 : IntKind.i64.wrap (l - (S.length : Int)) = l - S.length := wrap_in (by omega) (by omega)
  rw [w1]
  exact ⟨fun h => ⟨-1, .inl rfl, rfl, trivial⟩, fun h => ⟨l - S.length, .inr ⟨by omega, by omega⟩, rfl, trivial⟩⟩
def wT (T : List (List Blk)) (i : Nat) : Nat := (T.getD i []).length
theorem sum_wT (T : List (List Blk)) : ∀ k, k ≤ T.length → sumN (wT T) k = (T.take k).flatten.length
  | 0, _ => rfl
  | k + 1, h => by
    rw [take_flat (by omega), List.length_append, ← sum_wT T k (by omega)]; rfl
theorem sum_T (T : List (List Blk)) : sumN (wT T) T.length = T.flatten.length := by rw [sum_wT T _ (Nat.le_refl _), List.take_length]
def in_szBB (nn : Bool) (T : List (List Blk)) (l : Int) := (G0, res57, ([] : List (Nat × Ob)), [Item.ir ir57], start [BL nn T, AI l] [])
theorem ev_szBB : ∀ (nn : Bool) (T : List (List Blk)) (l : Int), ev G0 res57 [] (3000 : Nat) (Or.nil.split Or.nil) [Item.ir ir57] (start [BL nn T, AI l] []) = VC.split (decide (IntKind.i64.wrap (l - (↑T.length : Int)) < (0 : Int))) (VC.doneP (AV.p true (PV.v (Value.int IntKind.i64 (-1 : Int))))) (VC.loop ir57_L1 [Item.bend (0 : Nat), Item.ir ir57_T2] (St.mk [((0 : Nat), AV.p false (PV.sl nn (1 : Nat) T.length (BB T))), ((1 : Nat), AV.p true (PV.v (Value.int IntKind.i64 (IntKind.i64.wrap (l - (↑T.length : Int)))))), ((4 : Nat), AV.p true (PV.v (Value.int IntKind.i64 (0 : Int)))), ((11 : Nat), AV.p true (PV.v (Value.bool (decide (IntKind.i64.wrap (l - (↑T.length : Int)) < (0 : Int)))))), ((5 : Nat), AV.p true (PV.v (Value.int IntKind.i64 (0 : Int))))] [])) := by intros; kernel_rfl
def st_szBB (nn : Bool) (T : List (List Blk)) (x : Nat × Int) : St := ⟨[(0, BL nn T), (1, AI x.2), (5, AI x.1)], []⟩
def r_szBB (nn : Bool) (T : List (List Blk)) (I : Nat × Int → St → Prop) (x : Nat × Int) := (G0, res57, ([] : List (Nat × Ob)), [Item.ir ir57_L1, .lend (I x), Item.bend 0, Item.ir ir57_T2], st_szBB nn T x)
theorem evr_szBB : ∀ (nn : Bool) (T : List (List Blk)) (I : Nat × Int → St → Prop) (x : Nat × Int), ev G0 res57 [] (3000 : Nat) ((Or.callE [] Int (fun (r : Int) => r = (-1 : Int) ∨ (0 : Int) ≤ r ∧ r + (↑(T.getD (↑x.1 : Int).toNat []).length : Int) = x.2) (fun (r : Int) => AI r) (fun (x_1 : Int) => []) fun (r : Int) => Or.nil.split Or.nil).split Or.nil) [Item.ir ir57_L1, Item.lend (I x), Item.bend (0 : Nat), Item.ir ir57_T2] (st_szBB nn T x) = VC.split (decide ((↑x.1 : Int) < (↑T.length : Int))) (VC.need ((0 : Int) ≤ (↑x.1 : Int) ∧ (↑x.1 : Int).toNat < T.length) (VC.callE Int (58 : Nat) [AV.p false (PV.sl false (3 : Nat) (T.getD (↑x.1 : Int).toNat []).length (SB (T.getD (↑x.1 : Int).toNat []))), AV.p true (PV.v (Value.int IntKind.i64 x.2))] [] (fun (r : Int) => r = (-1 : Int) ∨ (0 : Int) ≤ r ∧ r + (↑(T.getD (↑x.1 : Int).toNat []).length : Int) = x.2) (fun (r : Int) => AI r) (fun (x_1 : Int) => []) fun (r : Int) => VC.split (decide (r < (0 : Int))) (VC.doneP (AV.p true (PV.v (Value.int IntKind.i64 (-1 : Int))))) (VC.lend (I x) (St.mk [((0 : Nat), AV.p false (PV.sl nn (1 : Nat) T.length (BB T))), ((1 : Nat), AV.p true (PV.v (Value.int IntKind.i64 r))), ((5 : Nat), AV.p true (PV.v (Value.int IntKind.i64 (IntKind.i64.wrap ((↑x.1 : Int) + (1 : Int)))))), ((15 : Nat), AV.p true (PV.v (Value.bool (decide ((↑x.1 : Int) < (↑T.length : Int)))))), ((25 : Nat), AV.p true (PV.v (Value.bool (decide (r < (0 : Int))))))] [])))) (VC.doneP (AV.p true (PV.v (Value.int IntKind.i64 x.2)))) := by intros; kernel_rfl
theorem c_szBB (nn : Bool) (T : List (List Blk)) (l : Int) (hT : T.length ≤ maxLen) (hw : ∀ i, wT T i ≤ maxLen) (hl0 : 0 ≤ l) (hl : l ≤ 1048576) : PSome Try.prog G0 57 [BL nn T, AI l] [] Int (fun r => r = -1 ∨ (0 ≤ r ∧ r + T.length + (T.flatten.length : Nat) = l)) (fun r => AI r) (fun _ => []) := by
  refine PCall.by chk57 rfl (ev_szBB nn T l) ?_
  simp only [VC.holds_split, VC.holds_need, VC.holds_doneP, VC.holds_done, VC.holds_either, VC.holds_call, VC.holds_callE, VC.holds_lend, VC.holds_stop, VC.holds_fail, decide_eq_true_eq, decide_eq_false_iff_not]
  have hx : maxLen = 9223372036854775807 := rfl
  have w1 : IntKind.i64.wrap (l - T.length) = l - T.length := wrap_in (by omega) (by omega)
  rw [w1]
  refine ⟨fun h => ⟨-1, .inl rfl, rfl, trivial⟩, fun h0 => ?_⟩
  refine loop_by (st_szBB nn T) (fun x => x.1 ≤ T.length ∧ 0 ≤ x.2 ∧ x.2 + T.length + (sumN (wT T) x.1 : Nat) = l) (fun x => T.length - x.1) (0, l - T.length) [] [] [] ⟨by simp, by simp only []; omega, by simp only [sumN]; omega⟩ ?_ (evr_szBB nn T) fun x hx' => ?_
  · simp [st_szBB, hbs, St.lowers, St.lower, stLe, leEnv, leObs, obLe, injB, pinC, AV.leC, AV.leCs, PV.leC, PV.Le_v, St.get, St.obj, look, rho, isNew, keptC, renH, Mode.ok, Mode.isZ, PV.isVal, PV.isNilSl, List.all_nil, List.all_cons, List.any_nil, List.any_cons, List.map_nil, List.map_cons, PV.Le_self]
  · obtain ⟨k, r⟩ := x
    obtain ⟨h1, h2, h3⟩ := hx'
    simp only [] at h1 h2 h3
    have hk := hw k
    simp only [VC.holds_split, VC.holds_need, VC.holds_doneP, VC.holds_done, VC.holds_either, VC.holds_call, VC.holds_callE, VC.holds_lend, VC.holds_stop, VC.holds_fail, decide_eq_true_eq, decide_eq_false_iff_not, Int.toNat_natCast]
    refine ⟨fun h5 => ⟨⟨by omega, by omega⟩, c_szBS _ _ _ hk h2 (by omega), fun r' hr' => ⟨fun h6 => ⟨-1, .inl rfl, rfl, trivial⟩, fun h6 => ?_⟩⟩, fun h5 => ⟨r, .inr ⟨h2, ?_⟩, rfl, trivial⟩⟩
    · have hr := hr'.resolve_left (by omega)
      refine Again.mk (k + 1, r') [] [] [] ⟨by simp only []; omega, by simp only []; omega, ?_⟩ (by simp only []; omega) ?_
      · have e : sumN (wT T) (k + 1) = sumN (wT T) k + (T.getD k []).length := rfl
        simp only [e]; omega
      · have e1 : IntKind.i64.wrap ((k : Int) + 1) = ((k + 1 : Nat) : Int) := wrap_in (by omega) (by omega)
        simp [st_szBB, hbs, St.lowers, St.lower, stLe, leEnv, leObs, obLe, injB, pinC, AV.leC, AV.leCs, PV.leC, PV.Le_v, St.get, St.obj, look, rho, isNew, keptC, renH, Mode.ok, Mode.isZ, PV.isVal, PV.isNilSl, List.all_nil, List.all_cons, List.any_nil, List.any_cons, List.map_nil, List.map_cons, PV.Le_self, e1]
    · have : k = T.length := by omega
      subst this
      rw [sum_T] at h3
      exact h3
def in_szM (T : List (List Blk)) (S : List Blk) (l : Int) := (G0, res32, ([] : List (Nat × Ob)), [Item.ir ir32], start [ME T S, AI l] [])
theorem ev_szM : ∀ (T : List (List Blk)) (S : List Blk) (l : Int), ev G0 res32 [] (3000 : Nat) (Or.callE [] Int (fun (r : Int) => r = (-1 : Int) ∨ (0 : Int) ≤ r ∧ r + (↑T.length : Int) + (↑T.flatten.length : Int) = l) (fun (r : Int) => AI r) (fun (x : Int) => []) fun (r : Int) => Or.nil.split (Or.callE [] Int (fun (r_1 : Int) => r_1 = (-1 : Int) ∨ (0 : Int) ≤ r_1 ∧ r_1 + (↑S.length : Int) = r) (fun (r_1 : Int) => AI r_1) (fun (x : Int) => []) fun (r_1 : Int) => Or.nil.split Or.nil)) [Item.ir ir32] (start [ME T S, AI l] []) = VC.callE Int (57 : Nat) [AV.p false (PV.sl false (1 : Nat) T.length (BB T)), AV.p true (PV.v (Value.int IntKind.i64 l))] [] (fun (r : Int) => r = (-1 : Int) ∨ (0 : Int) ≤ r ∧ r + (↑T.length : Int) + (↑T.flatten.length : Int) = l) (fun (r : Int) => AI r) (fun (x : Int) => []) fun (r : Int) => VC.split (decide (r < (0 : Int))) (VC.doneP (AV.p true (PV.v (Value.int IntKind.i64 (-1 : Int))))) (VC.callE Int (58 : Nat) [AV.p false (PV.sl false (3 : Nat) S.length (SB S)), AV.p true (PV.v (Value.int IntKind.i64 r))] [] (fun (r_1 : Int) => r_1 = (-1 : Int) ∨ (0 : Int) ≤ r_1 ∧ r_1 + (↑S.length : Int) = r) (fun (r_1 : Int) => AI r_1) (fun (x : Int) => []) fun (r_1 : Int) => VC.split (decide (r_1 < (0 : Int))) (VC.doneP (AV.p true (PV.v (Value.int IntKind.i64 (-1 : Int))))) (VC.doneP (AV.p true (PV.v (Value.int IntKind.i64 r_1))))) := by intros; kernel_rfl
theorem c_szM (T : List (List Blk)) (S : List Blk) (l : Int) (hT : T.length ≤ maxLen) (hw : ∀ i, wT T i ≤ maxLen) (hS : S.length ≤ maxLen) (hl0 : 0 ≤ l) (hl : l ≤ 1048576) : PSome Try.prog G0 32 [ME T S, AI l] [] Int (fun r => r = -1 ∨ (0 ≤ r ∧ r + T.length + (T.flatten.length : Nat) + S.length = l)) (fun r => AI r) (fun _ => []) := by
  refine PCall.by chk32 rfl (ev_szM T S l) ?_
  simp only [VC.holds_split, VC.holds_need, VC.holds_doneP, VC.holds_done, VC.holds_either, VC.holds_call, VC.holds_callE, VC.holds_lend, VC.holds_stop, VC.holds_fail, decide_eq_true_eq, decide_eq_false_iff_not]
  refine ⟨c_szBB _ _ _ hT hw hl0 hl, fun r hr => ⟨fun h1 => ⟨-1, .inl rfl, rfl, trivial⟩, fun h1 => ?_⟩⟩
  have hr := hr.resolve_left (by omega)
  refine ⟨c_szBS _ _ _ hS hr.1 (by omega), fun r' hr' => ⟨fun h2 => ⟨-1, .inl rfl, rfl, trivial⟩, fun h2 => ?_⟩⟩
  have hr' := hr'.resolve_left (by omega)
  exact ⟨r', .inr ⟨hr'.1, by omega⟩, rfl, trivial⟩
/-! ### copies -/
def in_toB (b : Blk) := (G0, res84, ([] : List (Nat × Ob)), [Item.ir ir84], start [BA b] [])
theorem ev_toB : ∀ (b : Blk), ev G0 res84 [] (3000 : Nat) Or.nil [Item.ir ir84] (start [BA b] []) = VC.doneP (AV.ag [AV.p true (PV.v (Value.int IntKind.i64 b.a)), AV.p true (PV.v (Value.int IntKind.i64 b.v)), AV.p true (PV.v (Value.int IntKind.i64 b.l))]) := by intros; kernel_rfl
theorem c_toB (b : Blk) : PRet Try.prog G0 84 [BA b] (BA b) := by
  refine PRet.by chk84 (ev_toB b) ?_
  simp only [VC.holds_split, VC.holds_need, VC.holds_doneP, VC.holds_done, VC.holds_either, VC.holds_call, VC.holds_callE, VC.holds_lend, VC.holds_stop, VC.holds_fail, decide_eq_true_eq, decide_eq_false_iff_not]
  simp
theorem c_toB' (S : List Blk) (j : Nat) : PRet Try.prog G0 84 [.ag [AI ((S.getD j b0).col 0), AI ((S.getD j b0).col 1), AI ((S.getD j b0).col 2)]] (.ag [AI ((S.getD j b0).col 0), AI ((S.getD j b0).col 1), AI ((S.getD j b0).col 2)]) := c_toB (S.getD j b0)
def cutB (S : List Blk) (k : Nat) : Nat → Nat → PV := fun i c => if i < k then SB S i c else PI 0
def in_toBS (nn : Bool) (S : List Blk) := (G0, res64, ([] : List (Nat × Ob)), [Item.ir ir64], start [BS nn S] [])
theorem ev_toBS : ∀ (nn : Bool) (S : List Blk), ev G0 res64 [] (3000 : Nat) Or.nil [Item.ir ir64] (start [BS nn S] []) = VC.need ((0 : Int) ≤ (↑S.length : Int) ∧ (↑S.length : Int) ≤ (↑S.length : Int) ∧ (↑(24 : Nat) : Int) * (↑S.length : Int) ≤ (281474976710656 : Int) ∧ (↑S.length : Int) ≤ (9223372036854775807 : Int)) (VC.loop ir64_L1 [Item.bend (0 : Nat), Item.ir ir64_T2] (St.mk [((0 : Nat), AV.p false (PV.sl nn (3 : Nat) S.length (SB S))), ((2 : Nat), AV.p true (PV.v (Value.slice none (0 : Nat) (0 : Nat)))), ((3 : Nat), AV.own (7 : Nat)), ((4 : Nat), AV.p true (PV.v (Value.int IntKind.i64 (0 : Int))))] [((7 : Nat), Ob.row Mode.u true (3 : Nat) (↑S.length : Int).toNat (fun (x j : Nat) => PV.v ([Value.int IntKind.i64 (0 : Int), Value.int IntKind.i64 (0 : Int), Value.int IntKind.i64 (0 : Int)].getD j undef)) [])])) := by intros; kernel_rfl
def st_toBS (nn : Bool) (S : List Blk) (k : Nat) : St := ⟨[(0, BS nn S), (3, .own 7), (4, AI k)], [(7, .row .u true 3 S.length (cutB S k) [])]⟩
def r_toBS (nn : Bool) (S : List Blk) (I : Nat → St → Prop) (k : Nat) := (G0, res64, ([] : List (Nat × Ob)), [Item.ir ir64_L1, .lend (I k), Item.bend 0, Item.ir ir64_T2], st_toBS nn S k)
theorem evr_toBS : ∀ (nn : Bool) (S : List Blk) (I : Nat → St → Prop) (k : Nat), ev G0 res64 [] (3000 : Nat) ((Or.call [] (AV.ag [AI ((S.getD (↑k : Int).toNat b0).col (0 : Nat)), AI ((S.getD (↑k : Int).toNat b0).col (1 : Nat)), AI ((S.getD (↑k : Int).toNat b0).col (2 : Nat))]) [] Or.nil).split Or.nil) [Item.ir ir64_L1, Item.lend (I k), Item.bend (0 : Nat), Item.ir ir64_T2] (st_toBS nn S k) = VC.split (decide ((↑k : Int) < (↑S.length : Int))) (VC.need ((0 : Int) ≤ (↑k : Int) ∧ (↑k : Int).toNat < S.length) (VC.call (84 : Nat) [AV.ag [AV.p true (PV.v (Value.int IntKind.i64 ((S.getD (↑k : Int).toNat b0).col (nat_lit 0)))), AV.p true (PV.v (Value.int IntKind.i64 ((S.getD (↑k : Int).toNat b0).col (nat_lit 1)))), AV.p true (PV.v (Value.int IntKind.i64 ((S.getD (↑k : Int).toNat b0).col (nat_lit 2))))]] [] (AV.ag [AI ((S.getD (↑k : Int).toNat b0).col (0 : Nat)), AI ((S.getD (↑k : Int).toNat b0).col (1 : Nat)), AI ((S.getD (↑k : Int).toNat b0).col (2 : Nat))]) [] (VC.need ((0 : Int) ≤ (↑k : Int) ∧ (↑k : Int).toNat < S.length) (VC.need ((↑k : Int).toNat < S.length) (VC.lend (I k) (St.mk [((0 : Nat), AV.p false (PV.sl nn (3 : Nat) S.length (SB S))), ((3 : Nat), AV.own (7 : Nat)), ((4 : Nat), AV.p true (PV.v (Value.int IntKind.i64 (IntKind.i64.wrap ((↑k : Int) + (1 : Int)))))), ((11 : Nat), AV.p true (PV.v (Value.bool (decide ((↑k : Int) < (↑S.length : Int))))))] [((7 : Nat), Ob.row Mode.u true (3 : Nat) S.length (setG [((↑k : Int).toNat, (0 : Nat), PV.v (Value.int IntKind.i64 ((S.getD (↑k : Int).toNat b0).col (0 : Nat)))), ((↑k : Int).toNat, (1 : Nat), PV.v (Value.int IntKind.i64 ((S.getD (↑k : Int).toNat b0).col (1 : Nat)))), ((↑k : Int).toNat, (2 : Nat), PV.v (Value.int IntKind.i64 ((S.getD (↑k : Int).toNat b0).col (2 : Nat))))] (cutB S k)) [])])))))) (VC.done (St.mk [((0 : Nat), AV.p false (PV.sl nn (3 : Nat) S.length (SB S))), ((3 : Nat), AV.own (7 : Nat)), ((4 : Nat), AV.p true (PV.v (Value.int IntKind.i64 (↑k : Int)))), ((11 : Nat), AV.p true (PV.v (Value.bool (decide ((↑k : Int) < (↑S.length : Int)))))), ((2 : Nat), AV.own (7 : Nat))] [((7 : Nat), Ob.row Mode.u true (3 : Nat) S.length (cutB S k) [])])) := by intros; kernel_rfl
def in_toBB (nn : Bool) (T : List (List Blk)) := (G0, res63, ([] : List (Nat × Ob)), [Item.ir ir63], start [BL nn T] [])
theorem ev_toBB : ∀ (nn : Bool) (T : List (List Blk)), ev G0 res63 [] (3000 : Nat) Or.nil [Item.ir ir63] (start [BL nn T] []) = VC.need ((0 : Int) ≤ (↑T.length : Int) ∧ (↑T.length : Int) ≤ (↑T.length : Int) ∧ (↑(24 : Nat) : Int) * (↑T.length : Int) ≤ (281474976710656 : Int) ∧ (↑T.length : Int) ≤ (9223372036854775807 : Int)) (VC.loop ir63_L1 [Item.bend (0 : Nat), Item.ir ir63_T2] (St.mk [((0 : Nat), AV.p false (PV.sl nn (1 : Nat) T.length (BB T))), ((2 : Nat), AV.p true (PV.v (Value.slice none (0 : Nat) (0 : Nat)))), ((3 : Nat), AV.own (7 : Nat)), ((4 : Nat), AV.p true (PV.v (Value.int IntKind.i64 (0 : Int))))] [((7 : Nat), Ob.row Mode.u true (1 : Nat) (↑T.length : Int).toNat (fun (x j : Nat) => PV.v ([Value.slice none (0 : Nat) (0 : Nat)].getD j undef)) [])])) := by intros; kernel_rfl
abbrev BW (w : Nat → Nat) (g : Nat → Nat → Nat → PV) : Nat → Nat → PV := fun i _ => .sl false 3 (w i) (g i)
def st_toBB (nn : Bool) (T : List (List Blk)) (k : Nat) : St := ⟨[(0, BL nn T), (3, .own 7), (4, AI k)], [(7, .row .u true 1 T.length (BW (fun i => if i < k then wT T i else 0) fun i => SB (T.getD i [])) [])]⟩
def r_toBB (nn : Bool) (T : List (List Blk)) (I : Nat → St → Prop) (k : Nat) := (G0, res63, ([] : List (Nat × Ob)), [Item.ir ir63_L1, .lend (I k), Item.bend 0, Item.ir ir63_T2], st_toBB nn T k)
theorem c_toBS (nn : Bool) (S : List Blk) (hS : S.length ≤ 1048576) : PObj Try.prog G0 64 [BS nn S] [] (.own 0) [(0, .row .u true 3 S.length (SB S) [])] := by
  refine PObj.by chk64 rfl (ev_toBS nn S) ?_
  simp only [VC.holds_split, VC.holds_need, VC.holds_doneP, VC.holds_done, VC.holds_either, VC.holds_call, VC.holds_callE, VC.holds_lend, VC.holds_stop, VC.holds_fail, decide_eq_true_eq, decide_eq_false_iff_not]
  refine ⟨⟨by omega, by omega, by simp; omega, by omega⟩, loop_by (st_toBS nn S) (fun k => k ≤ S.length) (fun k => S.length - k) 0 [] [] [] (by omega) ?_ (evr_toBS nn S) fun k hk => ?_⟩
  · simp [st_toBS, hbs, St.lowers, St.lower, stLe, leEnv, leObs, obLe, injB, pinC, AV.leC, AV.leCs, PV.leC, PV.Le_v, St.get, St.obj, look, rho, isNew, keptC, renH, Mode.ok, Mode.isZ, PV.isVal, PV.isNilSl, List.all_nil, List.all_cons, List.any_nil, List.any_cons, List.map_nil, List.map_cons, PV.Le_self]
    intro i c hi hc
    match c, hc with
    | 0, _ => simp [cutB]; exact .refl _
    | 1, _ => simp [cutB]; exact .refl _
    | 2, _ => simp [cutB]; exact .refl _
  · have ek : IntKind.i64.wrap ((k : Int) + 1) = ((k + 1 : Nat) : Int) := wrap_in (by omega) (by omega)
    simp only [VC.holds_split, VC.holds_need, VC.holds_doneP, VC.holds_done, VC.holds_either, VC.holds_call, VC.holds_callE, VC.holds_lend, VC.holds_stop, VC.holds_fail, decide_eq_true_eq, decide_eq_false_iff_not, Int.toNat_natCast]
    refine ⟨fun h0 => ⟨⟨by omega, by omega⟩, c_toB' _ _, ⟨by omega, by omega⟩, by omega, Again.mk (k + 1) [] [] [] (by omega) (by omega) ?_⟩, fun h0 => ?_⟩
    · simp [st_toBS, hbs, St.lowers, St.lower, stLe, leEnv, leObs, obLe, injB, pinC, AV.leC, AV.leCs, PV.leC, PV.Le_v, St.get, St.obj, look, rho, isNew, keptC, renH, Mode.ok, Mode.isZ, PV.isVal, PV.isNilSl, List.all_nil, List.all_cons, List.any_nil, List.any_cons, List.map_nil, List.map_cons, PV.Le_self, ek]
      intro i c hi hc
      by_cases h1 : i = k
      · subst h1
        match c, hc with
        | 0, _ => simp [setG, cellSet, cutB]; exact .refl _
        | 1, _ => simp [setG, cellSet, cutB]; exact .refl _
        | 2, _ => simp [setG, cellSet, cutB]; exact .refl _
      · have : (i < k + 1) = (i < k) := by apply propext; omega
        simp [setG, cellSet, cutB, h1, this]; exact .refl _
    · have : k = S.length := by omega
      subst this
      refine ResOk.mk [] [(0, 7)] [] _ _ ?_ ⟨rfl, rfl⟩
      simp [doneC, resOf, resAV, tup, pinR, PV.Le_self, hbs, St.lowers, St.lower, stLe, leEnv, leObs, obLe, injB, pinC, AV.leC, AV.leCs, PV.leC, PV.Le_v, St.get, St.obj, look, rho, isNew, keptC, renH, Mode.ok, Mode.isZ, PV.isVal, PV.isNilSl, List.all_nil, List.all_cons, List.any_nil, List.any_cons, List.map_nil, List.map_cons, res64]
      intro i c hi hc
      simp [cutB, hi]; exact .refl _
theorem evr_toBB : ∀ (nn : Bool) (T : List (List Blk)) (I : Nat → St → Prop) (k : Nat), ev G0 res63 [] (3000 : Nat) ((Or.call [] (AV.own (0 : Nat)) [((0 : Nat), Ob.row Mode.u true (3 : Nat) (T.getD (↑k : Int).toNat []).length (SB (T.getD (↑k : Int).toNat [])) [])] Or.nil).split Or.nil) [Item.ir ir63_L1, Item.lend (I k), Item.bend (0 : Nat), Item.ir ir63_T2] (st_toBB nn T k) = VC.split (decide ((↑k : Int) < (↑T.length : Int))) (VC.need ((0 : Int) ≤ (↑k : Int) ∧ (↑k : Int).toNat < T.length) (VC.call (64 : Nat) [AV.p false (PV.sl false (3 : Nat) (T.getD (↑k : Int).toNat []).length (SB (T.getD (↑k : Int).toNat [])))] [] (AV.own (0 : Nat)) [((0 : Nat), Ob.row Mode.u true (3 : Nat) (T.getD (↑k : Int).toNat []).length (SB (T.getD (↑k : Int).toNat [])) [])] (VC.need ((0 : Int) ≤ (↑k : Int) ∧ (↑k : Int).toNat < T.length) (VC.need ((↑k : Int).toNat < T.length) (VC.lend (I k) (St.mk [((0 : Nat), AV.p false (PV.sl nn (1 : Nat) T.length (BB T))), ((3 : Nat), AV.own (7 : Nat)), ((4 : Nat), AV.p true (PV.v (Value.int IntKind.i64 (IntKind.i64.wrap ((↑k : Int) + (1 : Int)))))), ((11 : Nat), AV.p true (PV.v (Value.bool (decide ((↑k : Int) < (↑T.length : Int))))))] [((7 : Nat), Ob.row Mode.u true (1 : Nat) T.length (setG [((↑k : Int).toNat, (0 : Nat), PV.sl true (3 : Nat) (T.getD (↑k : Int).toNat []).length (SB (T.getD (↑k : Int).toNat [])))] (BW (fun (i : Nat) => if i < k then wT T i else (0 : Nat)) fun (i : Nat) => SB (T.getD i []))) [])])))))) (VC.done (St.mk [((0 : Nat), AV.p false (PV.sl nn (1 : Nat) T.length (BB T))), ((3 : Nat), AV.own (7 : Nat)), ((4 : Nat), AV.p true (PV.v (Value.int IntKind.i64 (↑k : Int)))), ((11 : Nat), AV.p true (PV.v (Value.bool (decide ((↑k : Int) < (↑T.length : Int)))))), ((2 : Nat), AV.own (7 : Nat))] [((7 : Nat), Ob.row Mode.u true (1 : Nat) T.length (BW (fun (i : Nat) => if i < k then wT T i else (0 : Nat)) fun (i : Nat) => SB (T.getD i [])) [])])) := by intros; kernel_rfl
theorem c_toBB (nn : Bool) (T : List (List Blk)) (hT : T.length ≤ 1048576) (hw : ∀ i, i < T.length → wT T i ≤ 1048576) : PObj Try.prog G0 63 [BL nn T] [] (.own 0) [(0, .row .u true 1 T.length (BB T) [])] := by
  refine PObj.by chk63 rfl (ev_toBB nn T) ?_
  simp only [VC.holds_split, VC.holds_need, VC.holds_doneP, VC.holds_done, VC.holds_either, VC.holds_call, VC.holds_callE, VC.holds_lend, VC.holds_stop, VC.holds_fail, decide_eq_true_eq, decide_eq_false_iff_not]
  refine ⟨⟨by omega, by omega, by simp; omega, by omega⟩, loop_by (st_toBB nn T) (fun k => k ≤ T.length) (fun k => T.length - k) 0 [] [] [] (by omega) ?_ (evr_toBB nn T) fun k hk => ?_⟩
  · simp [st_toBB, hbs, St.lowers, St.lower, stLe, leEnv, leObs, obLe, injB, pinC, AV.leC, AV.leCs, PV.leC, PV.Le_v, St.get, St.obj, look, rho, isNew, keptC, renH, Mode.ok, Mode.isZ, PV.isVal, PV.isNilSl, List.all_nil, List.all_cons, List.any_nil, List.any_cons, List.map_nil, List.map_cons, PV.Le_self]
    exact fun i hi => PV.Le.nil _ _
  · have ek : IntKind.i64.wrap ((k : Int) + 1) = ((k + 1 : Nat) : Int) := wrap_in (by omega) (by omega)
    simp only [VC.holds_split, VC.holds_need, VC.holds_doneP, VC.holds_done, VC.holds_either, VC.holds_call, VC.holds_callE, VC.holds_lend, VC.holds_stop, VC.holds_fail, decide_eq_true_eq, decide_eq_false_iff_not, Int.toNat_natCast]
    refine ⟨fun h0 => ⟨⟨by omega, by omega⟩, c_toBS _ _ (hw k (by omega)), ⟨by omega, by omega⟩, by omega, Again.mk (k + 1) [] [] [] (by omega) (by omega) ?_⟩, fun h0 => ?_⟩
    · simp [st_toBB, hbs, St.lowers, St.lower, stLe, leEnv, leObs, obLe, injB, pinC, AV.leC, AV.leCs, PV.leC, PV.Le_v, St.get, St.obj, look, rho, isNew, keptC, renH, Mode.ok, Mode.isZ, PV.isVal, PV.isNilSl, List.all_nil, List.all_cons, List.any_nil, List.any_cons, List.map_nil, List.map_cons, PV.Le_self, ek]
      intro i hi
      by_cases h1 : i = k
      · subst h1
        simp [setG, cellSet, wT]
        exact .sl _ _ (fun e => (by cases e)) 3 _ _ _ _ (by simp) fun a c ha hc => .refl _
      · have : (i < k + 1) = (i < k) := by apply propext; omega
        simp [setG, cellSet, h1]
        exact .sl _ _ (fun e => e) 3 _ _ _ _ (by simp [this]) fun a c ha hc => .refl _
    · have : k = T.length := by omega
      subst this
      refine ResOk.mk [] [(0, 7)] [] _ _ ?_ ⟨rfl, rfl⟩
      simp [doneC, resOf, resAV, tup, pinR, PV.Le_self, hbs, St.lowers, St.lower, stLe, leEnv, leObs, obLe, injB, pinC, AV.leC, AV.leCs, PV.leC, PV.Le_v, St.get, St.obj, look, rho, isNew, keptC, renH, Mode.ok, Mode.isZ, PV.isVal, PV.isNilSl, List.all_nil, List.all_cons, List.any_nil, List.any_cons, List.map_nil, List.map_cons, res63]
      intro i hi
      exact .sl _ _ (fun e => e) 3 _ _ _ _ (by simp [hi, wT]) fun a c ha hc => .refl _
def in_toM (T : List (List Blk)) (S : List Blk) := (G0, res34, ([] : List (Nat × Ob)), [Item.ir ir34], start [ME T S] [])
theorem ev_toM : ∀ (T : List (List Blk)) (S : List Blk), ev G0 res34 [] (3000 : Nat) (Or.call [] (AV.own (0 : Nat)) [((0 : Nat), Ob.row Mode.u true (1 : Nat) T.length (BB T) [])] (Or.call [] (AV.own (0 : Nat)) [((0 : Nat), Ob.row Mode.u true (3 : Nat) S.length (SB S) [])] Or.nil)) [Item.ir ir34] (start [ME T S] []) = VC.call (63 : Nat) [AV.p false (PV.sl false (1 : Nat) T.length (BB T))] [] (AV.own (0 : Nat)) [((0 : Nat), Ob.row Mode.u true (1 : Nat) T.length (BB T) [])] (VC.call (64 : Nat) [AV.p false (PV.sl false (3 : Nat) S.length (SB S))] [] (AV.own (0 : Nat)) [((0 : Nat), Ob.row Mode.u true (3 : Nat) S.length (SB S) [])] (VC.done (St.mk [((0 : Nat), AV.ag [AV.p false (PV.sl false (1 : Nat) T.length (BB T)), AV.p false (PV.sl false (3 : Nat) S.length (SB S))]), ((1 : Nat), AV.adr (1 : Nat) (0 : Nat)), ((2 : Nat), AV.adr (2 : Nat) (0 : Nat)), ((3 : Nat), AV.adr (3 : Nat) (0 : Nat))] [((1 : Nat), Ob.box [AV.p false (PV.sl false (1 : Nat) T.length (BB T)), AV.p false (PV.sl false (3 : Nat) S.length (SB S))]), ((2 : Nat), Ob.box [AV.own (1006 : Nat), AV.own (1010 : Nat)]), ((3 : Nat), Ob.box [AV.own (1006 : Nat), AV.own (1010 : Nat)]), ((1006 : Nat), Ob.row Mode.u true (1 : Nat) T.length (BB T) []), ((1010 : Nat), Ob.row Mode.u true (3 : Nat) S.length (SB S) [])]))) := by intros; kernel_rfl
theorem c_toM (T : List (List Blk)) (S : List Blk) (hT : T.length ≤ 1048576) (hS : S.length + T.flatten.length ≤ 1048576) : PObj Try.prog G0 34 [ME T S] [] meR (meH T S) := by
  refine PObj.by chk34 rfl (ev_toM T S) ?_
  simp only [VC.holds_split, VC.holds_need, VC.holds_doneP, VC.holds_done, VC.holds_either, VC.holds_call, VC.holds_callE, VC.holds_lend, VC.holds_stop, VC.holds_fail, decide_eq_true_eq, decide_eq_false_iff_not]
  refine ⟨c_toBB _ _ hT (fun i hi => by have := len_fl hi; unfold wT; omega), c_toBS _ _ (by omega), ResOk.mk [] [(0, 1006), (1, 1010)] [] _ _ ?_ ⟨rfl, rfl⟩⟩
  simp [doneC, resOf, resAV, tup, pinR, PV.Le_self, hbs, St.lowers, St.lower, stLe, leEnv, leObs, obLe, injB, pinC, AV.leC, AV.leCs, PV.leC, PV.Le_v, St.get, St.obj, look, rho, isNew, keptC, renH, Mode.ok, Mode.isZ, PV.isVal, PV.isNilSl, List.all_nil, List.all_cons, List.any_nil, List.any_cons, List.map_nil, List.map_cons, res34]
/-! ### compared -/
def in_eqB (b : Blk) := (G0, res91, ([] : List (Nat × Ob)), [Item.ir ir91], start [BA b, BA b] [])
theorem ev_eqB : ∀ (b : Blk), ev G0 res91 [] (3000 : Nat) (Or.nil.split (Or.nil.split (Or.nil.split Or.nil))) [Item.ir ir91] (start [BA b, BA b] []) = VC.split (b.a != b.a) (VC.doneP (AV.p true (PV.v (Value.bool false)))) (VC.split (b.v != b.v) (VC.doneP (AV.p true (PV.v (Value.bool false)))) (VC.split (b.l != b.l) (VC.doneP (AV.p true (PV.v (Value.bool false)))) (VC.doneP (AV.p true (PV.v (Value.bool true)))))) := by intros; kernel_rfl
theorem c_eqB (b : Blk) : PRet Try.prog G0 91 [BA b, BA b] (AB true) := by
  refine PRet.by chk91 (ev_eqB b) ?_
  simp only [VC.holds_split, VC.holds_need, VC.holds_doneP, VC.holds_done, VC.holds_either, VC.holds_call, VC.holds_callE, VC.holds_lend, VC.holds_stop, VC.holds_fail, decide_eq_true_eq, decide_eq_false_iff_not]
  simp
theorem c_eqB' (S : List Blk) (j : Nat) : PRet Try.prog G0 91 [.ag [AI ((S.getD j b0).col 0), AI ((S.getD j b0).col 1), AI ((S.getD j b0).col 2)], .ag [AI ((S.getD j b0).col 0), AI ((S.getD j b0).col 1), AI ((S.getD j b0).col 2)]] (AB true) := c_eqB (S.getD j b0)
def in_eqBS (nn nn' : Bool) (S : List Blk) := (G0, res74, ([] : List (Nat × Ob)), [Item.ir ir74], start [BS nn S, BS nn' S] [])
theorem ev_eqBS : ∀ (nn nn' : Bool) (S : List Blk), ev G0 res74 [] (3000 : Nat) (Or.nil.split Or.nil) [Item.ir ir74] (start [BS nn S, BS nn' S] []) = VC.split ((↑S.length : Int) != (↑S.length : Int)) (VC.doneP (AV.p true (PV.v (Value.bool false)))) (VC.loop ir74_L1 [Item.bend (0 : Nat), Item.ir ir74_T2] (St.mk [((0 : Nat), AV.p false (PV.sl nn (3 : Nat) S.length (SB S))), ((1 : Nat), AV.p false (PV.sl nn' (3 : Nat) S.length (SB S))), ((4 : Nat), AV.p true (PV.v (Value.bool false))), ((10 : Nat), AV.p true (PV.v (Value.bool ((↑S.length : Int) != (↑S.length : Int))))), ((5 : Nat), AV.p true (PV.v (Value.int IntKind.i64 (0 : Int))))] [])) := by intros; kernel_rfl
def st_eqBS (nn nn' : Bool) (S : List Blk) (k : Nat) : St := ⟨[(0, BS nn S), (1, BS nn' S), (5, AI k)], []⟩
def r_eqBS (nn nn' : Bool) (S : List Blk) (I : Nat → St → Prop) (k : Nat) := (G0, res74, ([] : List (Nat × Ob)), [Item.ir ir74_L1, .lend (I k), Item.bend 0, Item.ir ir74_T2], st_eqBS nn nn' S k)
theorem evr_eqBS : ∀ (nn nn' : Bool) (S : List Blk) (I : Nat → St → Prop) (k : Nat), ev G0 res74 [] (3000 : Nat) ((Or.call [] (AB true) [] Or.nil.lit).split Or.nil) [Item.ir ir74_L1, Item.lend (I k), Item.bend (0 : Nat), Item.ir ir74_T2] (st_eqBS nn nn' S k) = VC.split (decide ((↑k : Int) < (↑S.length : Int))) (VC.need ((0 : Int) ≤ (↑k : Int) ∧ (↑k : Int).toNat < S.length) (VC.need ((0 : Int) ≤ (↑k : Int) ∧ (↑k : Int).toNat < S.length) (VC.call (91 : Nat) [AV.ag [AV.p true (PV.v (Value.int IntKind.i64 ((S.getD (↑k : Int).toNat b0).col (nat_lit 0)))), AV.p true (PV.v (Value.int IntKind.i64 ((S.getD (↑k : Int).toNat b0).col (nat_lit 1)))), AV.p true (PV.v (Value.int IntKind.i64 ((S.getD (↑k : Int).toNat b0).col (nat_lit 2))))], AV.ag [AV.p true (PV.v (Value.int IntKind.i64 ((S.getD (↑k : Int).toNat b0).col (nat_lit 0)))), AV.p true (PV.v (Value.int IntKind.i64 ((S.getD (↑k : Int).toNat b0).col (nat_lit 1)))), AV.p true (PV.v (Value.int IntKind.i64 ((S.getD (↑k : Int).toNat b0).col (nat_lit 2))))]] [] (AB true) [] (VC.lend (I k) (St.mk [((0 : Nat), AV.p false (PV.sl nn (3 : Nat) S.length (SB S))), ((1 : Nat), AV.p false (PV.sl nn' (3 : Nat) S.length (SB S))), ((5 : Nat), AV.p true (PV.v (Value.int IntKind.i64 (IntKind.i64.wrap ((↑k : Int) + (1 : Int)))))), ((14 : Nat), AV.p true (PV.v (Value.bool (decide ((↑k : Int) < (↑S.length : Int)))))), ((26 : Nat), AV.p true (PV.v (Value.bool false)))] []))))) (VC.doneP (AV.p true (PV.v (Value.bool true)))) := by intros; kernel_rfl
theorem c_eqBS (nn nn' : Bool) (S : List Blk) (hS : S.length ≤ 1048576000) : PRet Try.prog G0 74 [BS nn S, BS nn' S] (AB true) := by
  refine PRet.by chk74 (ev_eqBS nn nn' S) ?_
  simp only [VC.holds_split, VC.holds_need, VC.holds_doneP, VC.holds_done, VC.holds_either, VC.holds_call, VC.holds_callE, VC.holds_lend, VC.holds_stop, VC.holds_fail, decide_eq_true_eq, decide_eq_false_iff_not]
  refine ⟨fun h => by simp at h, fun h => loop_by (st_eqBS nn nn' S) (fun k => k ≤ S.length) (fun k => S.length - k) 0 [] [] [] (by omega) ?_ (evr_eqBS nn nn' S) fun k hk => ?_⟩
  · simp [st_eqBS, hbs, St.lowers, St.lower, stLe, leEnv, leObs, obLe, injB, pinC, AV.leC, AV.leCs, PV.leC, PV.Le_v, St.get, St.obj, look, rho, isNew, keptC, renH, Mode.ok, Mode.isZ, PV.isVal, PV.isNilSl, List.all_nil, List.all_cons, List.any_nil, List.any_cons, List.map_nil, List.map_cons, PV.Le_self]
  · have ek : IntKind.i64.wrap ((k : Int) + 1) = ((k + 1 : Nat) : Int) := wrap_in (by omega) (by omega)
    simp only [VC.holds_split, VC.holds_need, VC.holds_doneP, VC.holds_done, VC.holds_either, VC.holds_call, VC.holds_callE, VC.holds_lend, VC.holds_stop, VC.holds_fail, decide_eq_true_eq, decide_eq_false_iff_not, Int.toNat_natCast]
    refine ⟨fun h => ⟨⟨by omega, by omega⟩, ⟨by omega, by omega⟩, c_eqB' _ _, Again.mk (k + 1) [] [] [] (by omega) (by omega) ?_⟩, fun h => by simp⟩
    simp [st_eqBS, hbs, St.lowers, St.lower, stLe, leEnv, leObs, obLe, injB, pinC, AV.leC, AV.leCs, PV.leC, PV.Le_v, St.get, St.obj, look, rho, isNew, keptC, renH, Mode.ok, Mode.isZ, PV.isVal, PV.isNilSl, List.all_nil, List.all_cons, List.any_nil, List.any_cons, List.map_nil, List.map_cons, PV.Le_self, ek]
def in_eqBB (nn nn' : Bool) (T : List (List Blk)) := (G0, res73, ([] : List (Nat × Ob)), [Item.ir ir73], start [BL nn T, BL nn' T] [])
theorem ev_eqBB : ∀ (nn nn' : Bool) (T : List (List Blk)), ev G0 res73 [] (3000 : Nat) (Or.nil.split Or.nil) [Item.ir ir73] (start [BL nn T, BL nn' T] []) = VC.split ((↑T.length : Int) != (↑T.length : Int)) (VC.doneP (AV.p true (PV.v (Value.bool false)))) (VC.loop ir73_L1 [Item.bend (0 : Nat), Item.ir ir73_T2] (St.mk [((0 : Nat), AV.p false (PV.sl nn (1 : Nat) T.length (BB T))), ((1 : Nat), AV.p false (PV.sl nn' (1 : Nat) T.length (BB T))), ((4 : Nat), AV.p true (PV.v (Value.bool false))), ((10 : Nat), AV.p true (PV.v (Value.bool ((↑T.length : Int) != (↑T.length : Int))))), ((5 : Nat), AV.p true (PV.v (Value.int IntKind.i64 (0 : Int))))] [])) := by intros; kernel_rfl
def st_eqBB (nn nn' : Bool) (T : List (List Blk)) (k : Nat) : St := ⟨[(0, BL nn T), (1, BL nn' T), (5, AI k)], []⟩
def r_eqBB (nn nn' : Bool) (T : List (List Blk)) (I : Nat → St → Prop) (k : Nat) := (G0, res73, ([] : List (Nat × Ob)), [Item.ir ir73_L1, .lend (I k), Item.bend 0, Item.ir ir73_T2], st_eqBB nn nn' T k)
theorem evr_eqBB : ∀ (nn nn' : Bool) (T : List (List Blk)) (I : Nat → St → Prop) (k : Nat), ev G0 res73 [] (3000 : Nat) ((Or.call [] (AB true) [] Or.nil.lit).split Or.nil) [Item.ir ir73_L1, Item.lend (I k), Item.bend (0 : Nat), Item.ir ir73_T2] (st_eqBB nn nn' T k) = VC.split (decide ((↑k : Int) < (↑T.length : Int))) (VC.need ((0 : Int) ≤ (↑k : Int) ∧ (↑k : Int).toNat < T.length) (VC.need ((0 : Int) ≤ (↑k : Int) ∧ (↑k : Int).toNat < T.length) (VC.call (74 : Nat) [AV.p false (PV.sl false (3 : Nat) (T.getD (↑k : Int).toNat []).length (SB (T.getD (↑k : Int).toNat []))), AV.p false (PV.sl false (3 : Nat) (T.getD (↑k : Int).toNat []).length (SB (T.getD (↑k : Int).toNat [])))] [] (AB true) [] (VC.lend (I k) (St.mk [((0 : Nat), AV.p false (PV.sl nn (1 : Nat) T.length (BB T))), ((1 : Nat), AV.p false (PV.sl nn' (1 : Nat) T.length (BB T))), ((5 : Nat), AV.p true (PV.v (Value.int IntKind.i64 (IntKind.i64.wrap ((↑k : Int) + (1 : Int)))))), ((14 : Nat), AV.p true (PV.v (Value.bool (decide ((↑k : Int) < (↑T.length : Int)))))), ((26 : Nat), AV.p true (PV.v (Value.bool false)))] []))))) (VC.doneP (AV.p true (PV.v (Value.bool true)))) := by intros; kernel_rfl
theorem c_eqBB (nn nn' : Bool) (T : List (List Blk)) (hT : T.length ≤ 1048576000) (hw : ∀ i, i < T.length → wT T i ≤ 1048576000) : PRet Try.prog G0 73 [BL nn T, BL nn' T] (AB true) := by
  refine PRet.by chk73 (ev_eqBB nn nn' T) ?_
  simp only [VC.holds_split, VC.holds_need, VC.holds_doneP, VC.holds_done, VC.holds_either, VC.holds_call, VC.holds_callE, VC.holds_lend, VC.holds_stop, VC.holds_fail, decide_eq_true_eq, decide_eq_false_iff_not]
  refine ⟨fun h => by simp at h, fun h => loop_by (st_eqBB nn nn' T) (fun k => k ≤ T.length) (fun k => T.length - k) 0 [] [] [] (by omega) ?_ (evr_eqBB nn nn' T) fun k hk => ?_⟩
  · simp [st_eqBB, hbs, St.lowers, St.lower, stLe, leEnv, leObs, obLe, injB, pinC, AV.leC, AV.leCs, PV.leC, PV.Le_v, St.get, St.obj, look, rho, isNew, keptC, renH, Mode.ok, Mode.isZ, PV.isVal, PV.isNilSl, List.all_nil, List.all_cons, List.any_nil, List.any_cons, List.map_nil, List.map_cons, PV.Le_self]
  · have ek : IntKind.i64.wrap ((k : Int) + 1) = ((k + 1 : Nat) : Int) := wrap_in (by omega) (by omega)
    simp only [VC.holds_split, VC.holds_need, VC.holds_doneP, VC.holds_done, VC.holds_either, VC.holds_call, VC.holds_callE, VC.holds_lend, VC.holds_stop, VC.holds_fail, decide_eq_true_eq, decide_eq_false_iff_not, Int.toNat_natCast]
    refine ⟨fun h => ⟨⟨by omega, by omega⟩, ⟨by omega, by omega⟩, c_eqBS _ _ _ (hw k (by omega)), Again.mk (k + 1) [] [] [] (by omega) (by omega) ?_⟩, fun h => by simp⟩
    simp [st_eqBB, hbs, St.lowers, St.lower, stLe, leEnv, leObs, obLe, injB, pinC, AV.leC, AV.leCs, PV.leC, PV.Le_v, St.get, St.obj, look, rho, isNew, keptC, renH, Mode.ok, Mode.isZ, PV.isVal, PV.isNilSl, List.all_nil, List.all_cons, List.any_nil, List.any_cons, List.map_nil, List.map_cons, PV.Le_self, ek]
def in_eqM (T : List (List Blk)) (S : List Blk) := (G0, res36, ([] : List (Nat × Ob)), [Item.ir ir36], start [ME T S, ME T S] [])
theorem ev_eqM : ∀ (T : List (List Blk)) (S : List Blk), ev G0 res36 [] (3000 : Nat) (Or.call [] (AB true) [] (Or.call [] (AB true) [] Or.nil.lit).lit) [Item.ir ir36] (start [ME T S, ME T S] []) = VC.call (73 : Nat) [AV.p false (PV.sl false (1 : Nat) T.length (BB T)), AV.p false (PV.sl false (1 : Nat) T.length (BB T))] [] (AB true) [] (VC.call (74 : Nat) [AV.p false (PV.sl false (3 : Nat) S.length (SB S)), AV.p false (PV.sl false (3 : Nat) S.length (SB S))] [] (AB true) [] (VC.doneP (AV.p true (PV.v (Value.bool true))))) := by intros; kernel_rfl
theorem c_eqM (T : List (List Blk)) (S : List Blk) (hT : T.length ≤ 1048576) (hS : S.length + T.flatten.length ≤ 1048576) : PRet Try.prog G0 36 [ME T S, ME T S] (AB true) := by
  refine PRet.by chk36 (ev_eqM T S) ?_
  simp only [VC.holds_split, VC.holds_need, VC.holds_doneP, VC.holds_done, VC.holds_either, VC.holds_call, VC.holds_callE, VC.holds_lend, VC.holds_stop, VC.holds_fail, decide_eq_true_eq, decide_eq_false_iff_not]
  refine ⟨c_eqBB _ _ _ (by omega) (fun i hi => by have := len_fl hi; unfold wT; omega), c_eqBS _ _ _ (by omega), ?_⟩
  simp
/-! ### written over, and read again -/
abbrev MK (v : Int) : Nat → Nat → PV := fun i c => PI (v + 3 * (i : Int) + (c : Int))
def mkB (g : Nat → Nat → PV) (v : Int) (k : Nat) : Nat → Nat → PV := fun i c => if i < k then MK v i c else g i c
def in_mkBS (nn : Bool) (n : Nat) (g : Nat → Nat → PV) (v : Int) := (G0, res76, [(0, Ob.row .u nn 3 n g [])], [Item.ir ir76], start [.own 0, AI v] [(0, Ob.row .u nn 3 n g [])])
theorem ev_mkBS : ∀ (nn : Bool) (n : Nat) (g : Nat → Nat → PV) (v : Int), ev G0 res76 [((0 : Nat), Ob.row Mode.u nn (3 : Nat) n g [])] (3000 : Nat) Or.nil [Item.ir ir76] (start [AV.own (0 : Nat), AI v] [((0 : Nat), Ob.row Mode.u nn (3 : Nat) n g [])]) = VC.loop ir76_L1 [Item.bend (0 : Nat), Item.ir ir76_T2] (St.mk [((0 : Nat), AV.own (100000 : Nat)), ((1 : Nat), AV.p true (PV.v (Value.int IntKind.i64 v))), ((4 : Nat), AV.p true (PV.v (Value.int IntKind.i64 (0 : Int)))), ((5 : Nat), AV.p true (PV.v (Value.int IntKind.i64 (0 : Int))))] [((100000 : Nat), Ob.row Mode.u nn (3 : Nat) n g [])]) := by intros; kernel_rfl
def st_mkBS (nn : Bool) (n : Nat) (g : Nat → Nat → PV) (v : Int) (k : Nat) : St := ⟨[(0, .own 100000), (1, AI (v + 3 * (k : Int))), (5, AI k)], [(100000, .row .u nn 3 n (mkB g v k) [])]⟩
def r_mkBS (nn : Bool) (n : Nat) (g : Nat → Nat → PV) (v : Int) (I : Nat → St → Prop) (k : Nat) := (G0, res76, [(0, Ob.row .u nn 3 n g [])], [Item.ir ir76_L1, .lend (I k), Item.bend 0, Item.ir ir76_T2], st_mkBS nn n g v k)
theorem evr_mkBS : ∀ (nn : Bool) (n : Nat) (g : Nat → Nat → PV) (v : Int) (I : Nat → St → Prop) (k : Nat), ev G0 res76 [((0 : Nat), Ob.row Mode.u nn (3 : Nat) n g [])] (3000 : Nat) (Or.nil.split Or.nil) [Item.ir ir76_L1, Item.lend (I k), Item.bend (0 : Nat), Item.ir ir76_T2] (st_mkBS nn n g v k) = VC.split (decide ((↑k : Int) < (↑n : Int))) (VC.need ((0 : Int) ≤ (↑k : Int) ∧ (↑k : Int).toNat < n) (VC.need ((↑k : Int).toNat < n) (VC.need ((0 : Int) ≤ (↑k : Int) ∧ (↑k : Int).toNat < n) (VC.need ((↑k : Int).toNat < n) (VC.need ((0 : Int) ≤ (↑k : Int) ∧ (↑k : Int).toNat < n) (VC.need ((↑k : Int).toNat < n) (VC.lend (I k) (St.mk [((0 : Nat), AV.own (100000 : Nat)), ((1 : Nat), AV.p true (PV.v (Value.int IntKind.i64 (IntKind.i64.wrap (IntKind.i64.wrap (IntKind.i64.wrap (v + (3 : Int) * (↑k : Int) + (1 : Int)) + (1 : Int)) + (1 : Int)))))), ((5 : Nat), AV.p true (PV.v (Value.int IntKind.i64 (IntKind.i64.wrap ((↑k : Int) + (1 : Int)))))), ((9 : Nat), AV.p true (PV.v (Value.bool (decide ((↑k : Int) < (↑n : Int))))))] [((100000 : Nat), Ob.row Mode.u nn (3 : Nat) n (setG [((↑k : Int).toNat, (2 : Nat), PV.v (Value.int IntKind.i64 (IntKind.i64.wrap (IntKind.i64.wrap (v + (3 : Int) * (↑k : Int) + (1 : Int)) + (1 : Int)))))] (setG [((↑k : Int).toNat, (1 : Nat), PV.v (Value.int IntKind.i64 (IntKind.i64.wrap (v + (3 : Int) * (↑k : Int) + (1 : Int)))))] (setG [((↑k : Int).toNat, (0 : Nat), PV.v (Value.int IntKind.i64 (v + (3 : Int) * (↑k : Int))))] (mkB g v k)))) [])])))))))) (VC.done (St.mk [((0 : Nat), AV.own (100000 : Nat)), ((1 : Nat), AV.p true (PV.v (Value.int IntKind.i64 (v + (3 : Int) * (↑k : Int))))), ((5 : Nat), AV.p true (PV.v (Value.int IntKind.i64 (↑k : Int)))), ((9 : Nat), AV.p true (PV.v (Value.bool (decide ((↑k : Int) < (↑n : Int)))))), ((4 : Nat), AV.p true (PV.v (Value.int IntKind.i64 (v + (3 : Int) * (↑k : Int)))))] [((100000 : Nat), Ob.row Mode.u nn (3 : Nat) n (mkB g v k) [])])) := by intros; kernel_rfl
theorem c_mkBS (nn : Bool) (n : Nat) (g : Nat → Nat → PV) (v : Int) (hn : n ≤ 16777216) (hv1 : 0 ≤ v) (hv2 : v ≤ 1048576000) :
    PObj Try.prog G0 76 [.own 0, AI v] [(0, Ob.row .u nn 3 n g [])] (AI (v + 3 * (n : Int))) [(0, Ob.row .u nn 3 n (MK v) [])] := by
  refine PObj.by chk76 rfl (ev_mkBS nn n g v) ?_
  refine loop_by (st_mkBS nn n g v) (fun k => k ≤ n) (fun k => n - k) 0 [] [] [] (by omega) ?_ (evr_mkBS nn n g v) fun k hk => ?_
  · simp [st_mkBS, hbs, St.lowers, St.lower, stLe, leEnv, leObs, obLe, injB, pinC, AV.leC, AV.leCs, PV.leC, PV.Le_v, St.get, St.obj, look, rho, isNew, keptC, renH, Mode.ok, Mode.isZ, PV.isVal, PV.isNilSl, List.all_nil, List.all_cons, List.any_nil, List.any_cons, List.map_nil, List.map_cons, PV.Le_self, hbs]
    intro i c hi hc
    simp [mkB]; exact .refl _
  · have e1 : IntKind.i64.wrap ((k : Int) + 1) = ((k + 1 : Nat) : Int) := wrap_in (by omega) (by omega)
    have g1 : IntKind.i64.wrap (v + 3 * (k : Int) + 1) = v + 3 * (k : Int) + 1 := wrap_in (by omega) (by omega)
    have g2 : IntKind.i64.wrap (v + 3 * (k : Int) + 1 + 1) = v + 3 * (k : Int) + 2 := (wrap_in (by omega) (by omega)).trans (by omega)
    have g3 : IntKind.i64.wrap (v + 3 * (k : Int) + 2 + 1) = v + 3 * ((k + 1 : Nat) : Int) := (wrap_in (by omega) (by omega)).trans (by omega)
    simp only [VC.holds_split, VC.holds_need, VC.holds_doneP, VC.holds_done, VC.holds_either, VC.holds_call, VC.holds_callE, VC.holds_lend, VC.holds_stop, VC.holds_fail, decide_eq_true_eq, decide_eq_false_iff_not, Int.toNat_natCast, g1, g2, g3]
    refine ⟨fun h => ⟨⟨by omega, by omega⟩, by omega, ⟨by omega, by omega⟩, by omega, ⟨by omega, by omega⟩, by omega, Again.mk (k + 1) [] [] [] (by omega) (by omega) ?_⟩, fun h => ?_⟩
    · simp [st_mkBS, hbs, St.lowers, St.lower, stLe, leEnv, leObs, obLe, injB, pinC, AV.leC, AV.leCs, PV.leC, PV.Le_v, St.get, St.obj, look, rho, isNew, keptC, renH, Mode.ok, Mode.isZ, PV.isVal, PV.isNilSl, List.all_nil, List.all_cons, List.any_nil, List.any_cons, List.map_nil, List.map_cons, PV.Le_self, e1, hbs]
      intro i c hi hc
      by_cases h1 : i = k
      · subst h1
        match c, hc with
        | 0, _ =>
          simp [setG, cellSet, mkB]
          show PV.Le (PI (v + 3 * (i : Int))) (PI (v + 3 * (i : Int) + ((0 : Nat) : Int)))
          simp; exact .refl _
        | 1, _ => simp [setG, cellSet, mkB]; exact .refl _
        | 2, _ => simp [setG, cellSet, mkB]; exact .refl _
      · have : (i < k + 1) = (i < k) := by apply propext; omega
        simp [setG, cellSet, mkB, h1, this]; exact .refl _
    · have : k = n := by omega
      subst this
      refine ResOk.mk [] [(0, 100000)] [] _ _ ?_ ⟨rfl, rfl⟩
      simp [doneC, resOf, resAV, tup, pinR, PV.Le_self, hbs, St.lowers, St.lower, stLe, leEnv, leObs, obLe, injB, pinC, AV.leC, AV.leCs, PV.leC, PV.Le_v, St.get, St.obj, look, rho, isNew, keptC, renH, Mode.ok, Mode.isZ, PV.isVal, PV.isNilSl, List.all_nil, List.all_cons, List.any_nil, List.any_cons, List.map_nil, List.map_cons, res76, hbs]
      intro i c hi hc
      simp [mkB, hi]; exact .refl _
def in_mkBB (nn : Bool) (m : Nat) (w : Nat → Nat) (g : Nat → Nat → Nat → PV) (v : Int) := (G0, res75, [(0, Ob.row .u nn 1 m (BW w g) [])], [Item.ir ir75], start [.own 0, AI v] [(0, Ob.row .u nn 1 m (BW w g) [])])
theorem ev_mkBB : ∀ (nn : Bool) (m : Nat) (w : Nat → Nat) (g : Nat → Nat → Nat → PV) (v : Int), ev G0 res75 [((0 : Nat), Ob.row Mode.u nn (1 : Nat) m (BW w g) [])] (3000 : Nat) Or.nil [Item.ir ir75] (start [AV.own (0 : Nat), AI v] [((0 : Nat), Ob.row Mode.u nn (1 : Nat) m (BW w g) [])]) = VC.loop ir75_L1 [Item.bend (0 : Nat), Item.ir ir75_T2] (St.mk [((0 : Nat), AV.own (100000 : Nat)), ((1 : Nat), AV.p true (PV.v (Value.int IntKind.i64 v))), ((4 : Nat), AV.p true (PV.v (Value.int IntKind.i64 (0 : Int)))), ((5 : Nat), AV.p true (PV.v (Value.int IntKind.i64 (0 : Int))))] [((100000 : Nat), Ob.row Mode.u nn (1 : Nat) m (BW w g) [])]) := by intros; kernel_rfl
abbrev mkW (w : Nat → Nat) (v : Int) : Nat → Nat → Nat → PV := fun i => MK (v + 3 * (sumN w i : Nat))
def st_mkBB (nn : Bool) (m : Nat) (w : Nat → Nat) (g : Nat → Nat → Nat → PV) (v : Int) (k : Nat) : St := ⟨[(0, .own 100000), (1, AI (v + 3 * (sumN w k : Nat))), (5, AI k)], [(100000, .row .u nn 1 m (BW w fun i => if i < k then mkW w v i else g i) [])]⟩
def r_mkBB (nn : Bool) (m : Nat) (w : Nat → Nat) (g : Nat → Nat → Nat → PV) (v : Int) (I : Nat → St → Prop) (k : Nat) := (G0, res75, [(0, Ob.row .u nn 1 m (BW w g) [])], [Item.ir ir75_L1, .lend (I k), Item.bend 0, Item.ir ir75_T2], st_mkBB nn m w g v k)
theorem evr_mkBB : ∀ (nn : Bool) (m : Nat) (w : Nat → Nat) (g : Nat → Nat → Nat → PV) (v : Int) (I : Nat → St → Prop) (k : Nat), ev G0 res75 [((0 : Nat), Ob.row Mode.u nn (1 : Nat) m (BW w g) [])] (3000 : Nat) ((Or.call [(1015 : Nat)] (AI (v + (3 : Int) * (↑(sumN w k) : Int) + (3 : Int) * (↑(w (↑k : Int).toNat) : Int))) [((0 : Nat), Ob.row Mode.u false (3 : Nat) (w (↑k : Int).toNat) (MK (v + (3 : Int) * (↑(sumN w k) : Int))) [])] Or.nil).split Or.nil) [Item.ir ir75_L1, Item.lend (I k), Item.bend (0 : Nat), Item.ir ir75_T2] (st_mkBB nn m w g v k) = VC.split (decide ((↑k : Int) < (↑m : Int))) (VC.need ((0 : Int) ≤ (↑k : Int) ∧ (↑k : Int).toNat < m) (VC.need ((↑k : Int).toNat < m) (VC.call (76 : Nat) [AV.own (0 : Nat), AV.p true (PV.v (Value.int IntKind.i64 (v + (3 : Int) * (↑(sumN w k) : Int))))] [((0 : Nat), Ob.row Mode.u false (3 : Nat) (w (↑k : Int).toNat) (if (↑k : Int).toNat < k then mkW w v (↑k : Int).toNat else g (↑k : Int).toNat) [])] (AI (v + (3 : Int) * (↑(sumN w k) : Int) + (3 : Int) * (↑(w (↑k : Int).toNat) : Int))) [((0 : Nat), Ob.row Mode.u false (3 : Nat) (w (↑k : Int).toNat) (MK (v + (3 : Int) * (↑(sumN w k) : Int))) [])] (VC.lend (I k) (St.mk [((0 : Nat), AV.own (100000 : Nat)), ((1 : Nat), AV.p true (PV.v (Value.int IntKind.i64 (v + (3 : Int) * (↑(sumN w k) : Int) + (3 : Int) * (↑(w (↑k : Int).toNat) : Int))))), ((5 : Nat), AV.p true (PV.v (Value.int IntKind.i64 (IntKind.i64.wrap ((↑k : Int) + (1 : Int)))))), ((9 : Nat), AV.p true (PV.v (Value.bool (decide ((↑k : Int) < (↑m : Int))))))] [((100000 : Nat), Ob.row Mode.u nn (1 : Nat) m (cellSet (BW w fun (i : Nat) => if i < k then mkW w v i else g i) (↑k : Int).toNat (nat_lit 0) (PV.sl false (3 : Nat) (w (↑k : Int).toNat) (MK (v + (3 : Int) * (↑(sumN w k) : Int))))) [])]))))) (VC.done (St.mk [((0 : Nat), AV.own (100000 : Nat)), ((1 : Nat), AV.p true (PV.v (Value.int IntKind.i64 (v + (3 : Int) * (↑(sumN w k) : Int))))), ((5 : Nat), AV.p true (PV.v (Value.int IntKind.i64 (↑k : Int)))), ((9 : Nat), AV.p true (PV.v (Value.bool (decide ((↑k : Int) < (↑m : Int)))))), ((4 : Nat), AV.p true (PV.v (Value.int IntKind.i64 (v + (3 : Int) * (↑(sumN w k) : Int)))))] [((100000 : Nat), Ob.row Mode.u nn (1 : Nat) m (BW w fun (i : Nat) => if i < k then mkW w v i else g i) [])])) := by intros; kernel_rfl
theorem c_mkBB (nn : Bool) (m : Nat) (w : Nat → Nat) (g : Nat → Nat → Nat → PV) (v : Int) (hm : m ≤ 16777216) (hw : sumN w m ≤ 16777216) (hv1 : 0 ≤ v) (hv2 : v ≤ 536870912) : PObj Try.prog G0 75 [.own 0, AI v] [(0, Ob.row .u nn 1 m (BW w g) [])] (AI (v + 3 * (sumN w m : Nat))) [(0, Ob.row .u nn 1 m (BW w (mkW w v)) [])] := by
  refine PObj.by chk75 rfl (ev_mkBB nn m w g v) ?_
  refine loop_by (st_mkBB nn m w g v) (fun k => k ≤ m) (fun k => m - k) 0 [] [] [] (by omega) ?_ (evr_mkBB nn m w g v) fun k hk => ?_
  · simp [st_mkBB, hbs, St.lowers, St.lower, stLe, leEnv, leObs, obLe, injB, pinC, AV.leC, AV.leCs, PV.leC, PV.Le_v, St.get, St.obj, look, rho, isNew, keptC, renH, Mode.ok, Mode.isZ, PV.isVal, PV.isNilSl, List.all_nil, List.all_cons, List.any_nil, List.any_cons, List.map_nil, List.map_cons, PV.Le_self, hbs, sumN]
  · simp only [VC.holds_split, VC.holds_need, VC.holds_doneP, VC.holds_done, VC.holds_either, VC.holds_call, VC.holds_callE, VC.holds_lend, VC.holds_stop, VC.holds_fail, decide_eq_true_eq, decide_eq_false_iff_not, Int.toNat_natCast]
    refine ⟨fun h0 => ?_, fun h0 => ?_⟩
    · have h1 := sumN_le (w := w) (n := m) (i := k) (by omega)
      have h2 := sumN_mono (w := w) (n := m) (k := k) hk
      refine ⟨⟨by omega, by omega⟩, by omega, c_mkBS _ _ _ _ (by omega) (by omega) (by omega), Again.mk (k + 1) [] [] [] (by omega) (by omega) ?_⟩
      have e1 : IntKind.i64.wrap ((k : Int) + 1) = ((k + 1 : Nat) : Int) := wrap_in (by omega) (by omega)
      have e2 : v + 3 * (sumN w k : Int) + 3 * (w k : Int) = v + 3 * ((sumN w (k + 1) : Nat) : Int) := by simp only [sumN]; omega
      simp [st_mkBB, hbs, St.lowers, St.lower, stLe, leEnv, leObs, obLe, injB, pinC, AV.leC, AV.leCs, PV.leC, PV.Le_v, St.get, St.obj, look, rho, isNew, keptC, renH, Mode.ok, Mode.isZ, PV.isVal, PV.isNilSl, List.all_nil, List.all_cons, List.any_nil, List.any_cons, List.map_nil, List.map_cons, PV.Le_self, e1, e2, hbs]
      intro i hi
      by_cases h3 : i = k
      · subst h3
        simp [cellSet]
        exact .sl _ _ (fun e => e) 3 _ _ _ _ rfl fun a c ha hc => by simp; exact .refl _
      · have e3 : (i < k + 1) = (i < k) := by apply propext; omega
        simp [cellSet, h3]
        exact .sl _ _ (fun e => e) 3 _ _ _ _ rfl fun a c ha hc => by simp only [e3]; exact .refl _
    · have : k = m := by omega
      subst this
      refine ResOk.mk [] [(0, 100000)] [] _ _ ?_ ⟨rfl, rfl⟩
      simp [doneC, resOf, resAV, tup, pinR, PV.Le_self, hbs, St.lowers, St.lower, stLe, leEnv, leObs, obLe, injB, pinC, AV.leC, AV.leCs, PV.leC, PV.Le_v, St.get, St.obj, look, rho, isNew, keptC, renH, Mode.ok, Mode.isZ, PV.isVal, PV.isNilSl, List.all_nil, List.all_cons, List.any_nil, List.any_cons, List.map_nil, List.map_cons, res75, hbs]
      intro i hi
      exact .sl _ _ (fun e => e) 3 _ _ _ _ rfl fun a c ha hc => by simp [hi]; exact .refl _
def in_hdBS (nn : Bool) (n : Nat) (v : Int) := (G0, res78, ([] : List (Nat × Ob)), [Item.ir ir78], start [.p false (.sl nn 3 n (MK v)), AI v] [])
theorem ev_hdBS : ∀ (nn : Bool) (n : Nat) (v : Int), ev G0 res78 [] (3000 : Nat) Or.nil [Item.ir ir78] (start [AV.p false (PV.sl nn (3 : Nat) n (MK v)), AI v] []) = VC.loop ir78_L1 [Item.bend (0 : Nat), Item.ir ir78_T2] (St.mk [((0 : Nat), AV.p false (PV.sl nn (3 : Nat) n (MK v))), ((1 : Nat), AV.p true (PV.v (Value.int IntKind.i64 v))), ((4 : Nat), AV.p true (PV.v (Value.int IntKind.i64 (0 : Int)))), ((5 : Nat), AV.p true (PV.v (Value.int IntKind.i64 (0 : Int))))] []) := by intros; kernel_rfl
def st_hdBS (nn : Bool) (n : Nat) (v : Int) (k : Nat) : St := ⟨[(0, .p false (.sl nn 3 n (MK v))), (1, AI (v + 3 * (k : Int))), (5, AI k)], []⟩
def r_hdBS (nn : Bool) (n : Nat) (v : Int) (I : Nat → St → Prop) (k : Nat) := (G0, res78, ([] : List (Nat × Ob)), [Item.ir ir78_L1, .lend (I k), Item.bend 0, Item.ir ir78_T2], st_hdBS nn n v k)
theorem evr_hdBS : ∀ (nn : Bool) (n : Nat) (v : Int) (I : Nat → St → Prop) (k : Nat), ev G0 res78 [] (3000 : Nat) ((Or.nil.split (Or.nil.split (Or.nil.split Or.nil))).split Or.nil) [Item.ir ir78_L1, Item.lend (I k), Item.bend (0 : Nat), Item.ir ir78_T2] (st_hdBS nn n v k) = VC.split (decide ((↑k : Int) < (↑n : Int))) (VC.need ((0 : Int) ≤ (↑k : Int) ∧ (↑k : Int).toNat < n) (VC.split (v + (3 : Int) * (↑(↑k : Int).toNat : Int) + (↑((0 : Nat) + (0 : Nat)) : Int) != v + (3 : Int) * (↑k : Int)) (VC.doneP (AV.p true (PV.v (Value.int IntKind.i64 (-1 : Int))))) (VC.need ((0 : Int) ≤ (↑k : Int) ∧ (↑k : Int).toNat < n) (VC.split (v + (3 : Int) * (↑(↑k : Int).toNat : Int) + (↑((1 : Nat) + (0 : Nat)) : Int) != IntKind.i64.wrap (v + (3 : Int) * (↑k : Int) + (1 : Int))) (VC.doneP (AV.p true (PV.v (Value.int IntKind.i64 (-1 : Int))))) (VC.need ((0 : Int) ≤ (↑k : Int) ∧ (↑k : Int).toNat < n) (VC.split (v + (3 : Int) * (↑(↑k : Int).toNat : Int) + (↑((2 : Nat) + (0 : Nat)) : Int) != IntKind.i64.wrap (IntKind.i64.wrap (v + (3 : Int) * (↑k : Int) + (1 : Int)) + (1 : Int))) (VC.doneP (AV.p true (PV.v (Value.int IntKind.i64 (-1 : Int))))) (VC.lend (I k) (St.mk [((0 : Nat), AV.p false (PV.sl nn (3 : Nat) n (MK v))), ((1 : Nat), AV.p true (PV.v (Value.int IntKind.i64 (IntKind.i64.wrap (IntKind.i64.wrap (IntKind.i64.wrap (v + (3 : Int) * (↑k : Int) + (1 : Int)) + (1 : Int)) + (1 : Int)))))), ((5 : Nat), AV.p true (PV.v (Value.int IntKind.i64 (IntKind.i64.wrap ((↑k : Int) + (1 : Int)))))), ((9 : Nat), AV.p true (PV.v (Value.bool (decide ((↑k : Int) < (↑n : Int)))))), ((18 : Nat), AV.p true (PV.v (Value.bool (v + (3 : Int) * (↑(↑k : Int).toNat : Int) + (↑((0 : Nat) + (0 : Nat)) : Int) != v + (3 : Int) * (↑k : Int))))), ((27 : Nat), AV.p true (PV.v (Value.bool (v + (3 : Int) * (↑(↑k : Int).toNat : Int) + (↑((1 : Nat) + (0 : Nat)) : Int) != IntKind.i64.wrap (v + (3 : Int) * (↑k : Int) + (1 : Int)))))), ((36 : Nat), AV.p true (PV.v (Value.bool (v + (3 : Int) * (↑(↑k : Int).toNat : Int) + (↑((2 : Nat) + (0 : Nat)) : Int) != IntKind.i64.wrap (IntKind.i64.wrap (v + (3 : Int) * (↑k : Int) + (1 : Int)) + (1 : Int))))))] [])))))))) (VC.doneP (AV.p true (PV.v (Value.int IntKind.i64 (v + (3 : Int) * (↑k : Int)))))) := by intros; kernel_rfl
theorem c_hdBS (nn : Bool) (n : Nat) (v : Int) (hn : n ≤ 16777216) (hv1 : 0 ≤ v) (hv2 : v ≤ 1048576000) : PRet Try.prog G0 78 [.p false (.sl nn 3 n (MK v)), AI v] (AI (v + 3 * (n : Int))) := by
  refine PRet.by chk78 (ev_hdBS nn n v) ?_
  refine loop_by (st_hdBS nn n v) (fun k => k ≤ n) (fun k => n - k) 0 [] [] [] (by omega) ?_ (evr_hdBS nn n v) fun k hk => ?_
  · simp [st_hdBS, hbs, St.lowers, St.lower, stLe, leEnv, leObs, obLe, injB, pinC, AV.leC, AV.leCs, PV.leC, PV.Le_v, St.get, St.obj, look, rho, isNew, keptC, renH, Mode.ok, Mode.isZ, PV.isVal, PV.isNilSl, List.all_nil, List.all_cons, List.any_nil, List.any_cons, List.map_nil, List.map_cons, PV.Le_self]
  · have e1 : IntKind.i64.wrap ((k : Int) + 1) = ((k + 1 : Nat) : Int) := wrap_in (by omega) (by omega)
    have g1 : IntKind.i64.wrap (v + 3 * (k : Int) + 1) = v + 3 * (k : Int) + 1 := wrap_in (by omega) (by omega)
    have g2 : IntKind.i64.wrap (v + 3 * (k : Int) + 1 + 1) = v + 3 * (k : Int) + 2 := (wrap_in (by omega) (by omega)).trans (by omega)
    have g3 : IntKind.i64.wrap (v + 3 * (k : Int) + 2 + 1) = v + 3 * ((k + 1 : Nat) : Int) := (wrap_in (by omega) (by omega)).trans (by omega)
    simp only [VC.holds_split, VC.holds_need, VC.holds_doneP, VC.holds_done, VC.holds_either, VC.holds_call, VC.holds_callE, VC.holds_lend, VC.holds_stop, VC.holds_fail, decide_eq_true_eq, decide_eq_false_iff_not, Int.toNat_natCast, g1, g2, g3]
    refine ⟨fun h => ⟨⟨by omega, by omega⟩, fun h1 => by simp at h1, fun h1 => ⟨⟨by omega, by omega⟩, fun h2 => by simp at h2, fun h2 => ⟨⟨by omega, by omega⟩, fun h3 => by simp at h3, fun h3 => Again.mk (k + 1) [] [] [] (by omega) (by omega) ?_⟩⟩⟩, fun h => ?_⟩
    · simp [st_hdBS, hbs, St.lowers, St.lower, stLe, leEnv, leObs, obLe, injB, pinC, AV.leC, AV.leCs, PV.leC, PV.Le_v, St.get, St.obj, look, rho, isNew, keptC, renH, Mode.ok, Mode.isZ, PV.isVal, PV.isNilSl, List.all_nil, List.all_cons, List.any_nil, List.any_cons, List.map_nil, List.map_cons, PV.Le_self, e1]
    · have : k = n := by omega
      subst this
      simp
def in_hdBB (nn : Bool) (m : Nat) (w : Nat → Nat) (v : Int) := (G0, res77, ([] : List (Nat × Ob)), [Item.ir ir77], start [.p false (.sl nn 1 m (BW w (mkW w v))), AI v] [])
theorem ev_hdBB : ∀ (nn : Bool) (m : Nat) (w : Nat → Nat) (v : Int), ev G0 res77 [] (3000 : Nat) Or.nil [Item.ir ir77] (start [AV.p false (PV.sl nn (1 : Nat) m (BW w (mkW w v))), AI v] []) = VC.loop ir77_L1 [Item.bend (0 : Nat), Item.ir ir77_T2] (St.mk [((0 : Nat), AV.p false (PV.sl nn (1 : Nat) m (BW w (mkW w v)))), ((1 : Nat), AV.p true (PV.v (Value.int IntKind.i64 v))), ((4 : Nat), AV.p true (PV.v (Value.int IntKind.i64 (0 : Int)))), ((5 : Nat), AV.p true (PV.v (Value.int IntKind.i64 (0 : Int))))] []) := by intros; kernel_rfl
def st_hdBB (nn : Bool) (m : Nat) (w : Nat → Nat) (v : Int) (k : Nat) : St := ⟨[(0, .p false (.sl nn 1 m (BW w (mkW w v)))), (1, AI (v + 3 * (sumN w k : Nat))), (5, AI k)], []⟩
def r_hdBB (nn : Bool) (m : Nat) (w : Nat → Nat) (v : Int) (I : Nat → St → Prop) (k : Nat) := (G0, res77, ([] : List (Nat × Ob)), [Item.ir ir77_L1, .lend (I k), Item.bend 0, Item.ir ir77_T2], st_hdBB nn m w v k)
theorem evr_hdBB : ∀ (nn : Bool) (m : Nat) (w : Nat → Nat) (v : Int) (I : Nat → St → Prop) (k : Nat), ev G0 res77 [] (3000 : Nat) ((Or.call [] (AI (v + (3 : Int) * (↑(sumN w (↑k : Int).toNat) : Int) + (3 : Int) * (↑(w (↑k : Int).toNat) : Int))) [] (Or.nil.split Or.nil)).split Or.nil) [Item.ir ir77_L1, Item.lend (I k), Item.bend (0 : Nat), Item.ir ir77_T2] (st_hdBB nn m w v k) = VC.split (decide ((↑k : Int) < (↑m : Int))) (VC.need ((0 : Int) ≤ (↑k : Int) ∧ (↑k : Int).toNat < m) (VC.call (78 : Nat) [AV.p false (PV.sl false (3 : Nat) (w (↑k : Int).toNat) (mkW w v (↑k : Int).toNat)), AV.p true (PV.v (Value.int IntKind.i64 (v + (3 : Int) * (↑(sumN w k) : Int))))] [] (AI (v + (3 : Int) * (↑(sumN w (↑k : Int).toNat) : Int) + (3 : Int) * (↑(w (↑k : Int).toNat) : Int))) [] (VC.split (decide (v + (3 : Int) * (↑(sumN w (↑k : Int).toNat) : Int) + (3 : Int) * (↑(w (↑k : Int).toNat) : Int) < (0 : Int))) (VC.doneP (AV.p true (PV.v (Value.int IntKind.i64 (-1 : Int))))) (VC.lend (I k) (St.mk [((0 : Nat), AV.p false (PV.sl nn (1 : Nat) m (BW w (mkW w v)))), ((1 : Nat), AV.p true (PV.v (Value.int IntKind.i64 (v + (3 : Int) * (↑(sumN w (↑k : Int).toNat) : Int) + (3 : Int) * (↑(w (↑k : Int).toNat) : Int))))), ((5 : Nat), AV.p true (PV.v (Value.int IntKind.i64 (IntKind.i64.wrap ((↑k : Int) + (1 : Int)))))), ((9 : Nat), AV.p true (PV.v (Value.bool (decide ((↑k : Int) < (↑m : Int)))))), ((19 : Nat), AV.p true (PV.v (Value.bool (decide (v + (3 : Int) * (↑(sumN w (↑k : Int).toNat) : Int) + (3 : Int) * (↑(w (↑k : Int).toNat) : Int) < (0 : Int))))))] []))))) (VC.doneP (AV.p true (PV.v (Value.int IntKind.i64 (v + (3 : Int) * (↑(sumN w k) : Int)))))) := by intros; kernel_rfl
theorem c_hdBB (nn : Bool) (m : Nat) (w : Nat → Nat) (v : Int) (hm : m ≤ 16777216) (hw : sumN w m ≤ 16777216) (hv1 : 0 ≤ v) (hv2 : v ≤ 536870912) : PRet Try.prog G0 77 [.p false (.sl nn 1 m (BW w (mkW w v))), AI v] (AI (v + 3 * (sumN w m : Nat))) := by
  refine PRet.by chk77 (ev_hdBB nn m w v) ?_
  refine loop_by (st_hdBB nn m w v) (fun k => k ≤ m) (fun k => m - k) 0 [] [] [] (by omega) ?_ (evr_hdBB nn m w v) fun k hk => ?_
  · simp [st_hdBB, hbs, St.lowers, St.lower, stLe, leEnv, leObs, obLe, injB, pinC, AV.leC, AV.leCs, PV.leC, PV.Le_v, St.get, St.obj, look, rho, isNew, keptC, renH, Mode.ok, Mode.isZ, PV.isVal, PV.isNilSl, List.all_nil, List.all_cons, List.any_nil, List.any_cons, List.map_nil, List.map_cons, PV.Le_self, sumN]
  · simp only [VC.holds_split, VC.holds_need, VC.holds_doneP, VC.holds_done, VC.holds_either, VC.holds_call, VC.holds_callE, VC.holds_lend, VC.holds_stop, VC.holds_fail, decide_eq_true_eq, decide_eq_false_iff_not, Int.toNat_natCast]
    refine ⟨fun h0 => ?_, fun h0 => ?_⟩
    · have h1 := sumN_le (w := w) (n := m) (i := k) (by omega)
      have h2 := sumN_mono (w := w) (n := m) (k := k) hk
      refine ⟨⟨by omega, by omega⟩, c_hdBS _ _ _ (by omega) (by omega) (by omega), fun h3 => by omega, fun h3 => Again.mk (k + 1) [] [] [] (by omega) (by omega) ?_⟩
      have e1 : IntKind.i64.wrap ((k : Int) + 1) = ((k + 1 : Nat) : Int) := wrap_in (by omega) (by omega)
      have e2 : v + 3 * (sumN w k : Int) + 3 * (w k : Int) = v + 3 * ((sumN w (k + 1) : Nat) : Int) := by simp only [sumN]; omega
      simp [st_hdBB, hbs, St.lowers, St.lower, stLe, leEnv, leObs, obLe, injB, pinC, AV.leC, AV.leCs, PV.leC, PV.Le_v, St.get, St.obj, look, rho, isNew, keptC, renH, Mode.ok, Mode.isZ, PV.isVal, PV.isNilSl, List.all_nil, List.all_cons, List.any_nil, List.any_cons, List.map_nil, List.map_cons, PV.Le_self, e1, e2]
    · have : k = m := by omega
      subst this
      simp
abbrev wOb (nn : Bool) (T : List (List Blk)) : Ob := .row .u nn 1 T.length (BB T) []
def in_mkM (nn nn' : Bool) (T : List (List Blk)) (S : List Blk) (v : Int) := (G0, res37, [(0, Ob.row .u nn 1 T.length (BB T) []), (1, Ob.row .u nn' 3 S.length (SB S) [])], [Item.ir ir37], start [meR, AI v] [(0, Ob.row .u nn 1 T.length (BB T) []), (1, Ob.row .u nn' 3 S.length (SB S) [])])
theorem c_mkBB' (nn : Bool) (T : List (List Blk)) (v : Int) (hm : T.length ≤ 16777216) (hw : T.flatten.length ≤ 16777216) (hv1 : 0 ≤ v) (hv2 : v ≤ 536870912) : PObj Try.prog G0 75 [.own 0, AI v] [(0, Ob.row .u nn 1 T.length (BB T) [])] (AI (v + 3 * (T.flatten.length : Nat))) [(0, Ob.row .u nn 1 T.length (BW (wT T) (mkW (wT T) v)) [])] := by
  have h := c_mkBB nn T.length (wT T) (fun i => SB (T.getD i [])) v hm (by rw [sum_T]; exact hw) hv1 hv2
  rw [sum_T] at h
  exact h
theorem c_hdBB' (nn : Bool) (T : List (List Blk)) (v : Int) (hm : T.length ≤ 16777216) (hw : T.flatten.length ≤ 16777216) (hv1 : 0 ≤ v) (hv2 : v ≤ 536870912) : PRet Try.prog G0 77 [.p false (.sl nn 1 T.length (BW (wT T) (mkW (wT T) v))), AI v] (AI (v + 3 * (T.flatten.length : Nat))) := by
  have h := c_hdBB nn T.length (wT T) v hm (by rw [sum_T]; exact hw) hv1 hv2
  rwa [sum_T] at h
theorem ev_mkM : ∀ (nn nn' : Bool) (T : List (List Blk)) (S : List Blk) (v : Int), ev G0 res37 [((0 : Nat), Ob.row Mode.u nn (1 : Nat) T.length (BB T) []), ((1 : Nat), Ob.row Mode.u nn' (3 : Nat) S.length (SB S) [])] (3000 : Nat) (Or.call [(100000 : Nat)] (AI (v + (3 : Int) * (↑T.flatten.length : Int))) [((0 : Nat), Ob.row Mode.u nn (1 : Nat) T.length (BW (wT T) (mkW (wT T) v)) [])] (Or.call [(100001 : Nat)] (AI (v + (3 : Int) * (↑T.flatten.length : Int) + (3 : Int) * (↑S.length : Int))) [((0 : Nat), Ob.row Mode.u nn' (3 : Nat) S.length (MK (v + (3 : Int) * (↑T.flatten.length : Int))) [])] Or.nil)) [Item.ir ir37] (start [meR, AI v] [((0 : Nat), Ob.row Mode.u nn (1 : Nat) T.length (BB T) []), ((1 : Nat), Ob.row Mode.u nn' (3 : Nat) S.length (SB S) [])]) = VC.call (75 : Nat) [AV.own (0 : Nat), AV.p true (PV.v (Value.int IntKind.i64 v))] [((0 : Nat), Ob.row Mode.u nn (1 : Nat) T.length (BB T) [])] (AI (v + (3 : Int) * (↑T.flatten.length : Int))) [((0 : Nat), Ob.row Mode.u nn (1 : Nat) T.length (BW (wT T) (mkW (wT T) v)) [])] (VC.call (76 : Nat) [AV.own (0 : Nat), AV.p true (PV.v (Value.int IntKind.i64 (v + (3 : Int) * (↑T.flatten.length : Int))))] [((0 : Nat), Ob.row Mode.u nn' (3 : Nat) S.length (SB S) [])] (AI (v + (3 : Int) * (↑T.flatten.length : Int) + (3 : Int) * (↑S.length : Int))) [((0 : Nat), Ob.row Mode.u nn' (3 : Nat) S.length (MK (v + (3 : Int) * (↑T.flatten.length : Int))) [])] (VC.done (St.mk [((0 : Nat), AV.ag [AV.own (100000 : Nat), AV.own (100001 : Nat)]), ((1 : Nat), AV.p true (PV.v (Value.int IntKind.i64 (v + (3 : Int) * (↑T.flatten.length : Int) + (3 : Int) * (↑S.length : Int))))), ((2 : Nat), AV.adr (2 : Nat) (0 : Nat)), ((4 : Nat), AV.p true (PV.v (Value.int IntKind.i64 (v + (3 : Int) * (↑T.flatten.length : Int) + (3 : Int) * (↑S.length : Int)))))] [((100000 : Nat), Ob.row Mode.u nn (1 : Nat) T.length (BW (wT T) (mkW (wT T) v)) []), ((100001 : Nat), Ob.row Mode.u nn' (3 : Nat) S.length (MK (v + (3 : Int) * (↑T.flatten.length : Int))) []), ((2 : Nat), Ob.box [AV.own (100000 : Nat), AV.own (100001 : Nat)])]))) := by intros; kernel_rfl
def mkN (T : List (List Blk)) (S : List Blk) : Nat := 3 * T.flatten.length + 3 * S.length
abbrev mkMH (T : List (List Blk)) (S : List Blk) (v : Int) : List (Nat × Ob) := [(0, .row .u false 1 T.length (BW (wT T) (mkW (wT T) v)) []), (1, .row .u false 3 S.length (MK (v + 3 * (T.flatten.length : Nat))) [])]
theorem c_mkM (nn nn' : Bool) (T : List (List Blk)) (S : List Blk) (v : Int) (hm : T.length ≤ 1048576) (hS : S.length + T.flatten.length ≤ 1048576) (hv1 : 0 ≤ v) (hv2 : v ≤ 268435456) :
    PObj Try.prog G0 37 [meR, AI v] [(0, Ob.row .u nn 1 T.length (BB T) []), (1, Ob.row .u nn' 3 S.length (SB S) [])] (AI (v + (mkN T S : Nat))) (mkMH T S v) := by
  refine PObj.by chk37 rfl (ev_mkM nn nn' T S v) ?_
  simp only [VC.holds_split, VC.holds_need, VC.holds_doneP, VC.holds_done, VC.holds_either, VC.holds_call, VC.holds_callE, VC.holds_lend, VC.holds_stop, VC.holds_fail, decide_eq_true_eq, decide_eq_false_iff_not]
  have e : v + ((mkN T S : Nat) : Int) = v + 3 * (T.flatten.length : Nat) + 3 * (S.length : Nat) := by unfold mkN; omega
  rw [e]
  refine ⟨c_mkBB' _ _ _ (by omega) (by omega) hv1 (by omega), c_mkBS _ _ _ _ (by omega) (by omega) (by omega), ResOk.mk [] [(0, 100000), (1, 100001)] [] _ _ ?_ ⟨rfl, rfl⟩⟩
  simp [doneC, resOf, resAV, tup, pinR, PV.Le_self, hbs, St.lowers, St.lower, stLe, leEnv, leObs, obLe, injB, pinC, AV.leC, AV.leCs, PV.leC, PV.Le_v, St.get, St.obj, look, rho, isNew, keptC, renH, Mode.ok, Mode.isZ, PV.isVal, PV.isNilSl, List.all_nil, List.all_cons, List.any_nil, List.any_cons, List.map_nil, List.map_cons, res37, hbs]
def in_hdM (nn nn' : Bool) (T : List (List Blk)) (S : List Blk) (v : Int) := (G0, res38, ([] : List (Nat × Ob)), [Item.ir ir38], start [.ag [.p false (.sl nn 1 T.length (BW (wT T) (mkW (wT T) v))), .p false (.sl nn' 3 S.length (MK (v + 3 * (T.flatten.length : Nat))))], AI v] [])
theorem ev_hdM : ∀ (nn nn' : Bool) (T : List (List Blk)) (S : List Blk) (v : Int), ev G0 res38 [] (3000 : Nat) (Or.call [] (AI (v + (3 : Int) * (↑T.flatten.length : Int))) [] (Or.nil.split (Or.call [] (AI (v + (3 : Int) * (↑T.flatten.length : Int) + (3 : Int) * (↑S.length : Int))) [] (Or.nil.split Or.nil)))) [Item.ir ir38] (start [AV.ag [AV.p false (PV.sl nn (1 : Nat) T.length (BW (wT T) (mkW (wT T) v))), AV.p false (PV.sl nn' (3 : Nat) S.length (MK (v + (3 : Int) * (↑T.flatten.length : Int))))], AI v] []) = VC.call (77 : Nat) [AV.p false (PV.sl nn (1 : Nat) T.length (BW (wT T) (mkW (wT T) v))), AV.p true (PV.v (Value.int IntKind.i64 v))] [] (AI (v + (3 : Int) * (↑T.flatten.length : Int))) [] (VC.split (decide (v + (3 : Int) * (↑T.flatten.length : Int) < (0 : Int))) (VC.doneP (AV.p true (PV.v (Value.int IntKind.i64 (-1 : Int))))) (VC.call (78 : Nat) [AV.p false (PV.sl nn' (3 : Nat) S.length (MK (v + (3 : Int) * (↑T.flatten.length : Int)))), AV.p true (PV.v (Value.int IntKind.i64 (v + (3 : Int) * (↑T.flatten.length : Int))))] [] (AI (v + (3 : Int) * (↑T.flatten.length : Int) + (3 : Int) * (↑S.length : Int))) [] (VC.split (decide (v + (3 : Int) * (↑T.flatten.length : Int) + (3 : Int) * (↑S.length : Int) < (0 : Int))) (VC.doneP (AV.p true (PV.v (Value.int IntKind.i64 (-1 : Int))))) (VC.doneP (AV.p true (PV.v (Value.int IntKind.i64 (v + (3 : Int) * (↑T.flatten.length : Int) + (3 : Int) * (↑S.length : Int))))))))) := by intros; kernel_rfl
theorem c_hdM (nn nn' : Bool) (T : List (List Blk)) (S : List Blk) (v : Int) (hm : T.length ≤ 1048576) (hS : S.length + T.flatten.length ≤ 1048576) (hv1 : 0 ≤ v) (hv2 : v ≤ 268435456) :
    PRet Try.prog G0 38 [.ag [.p false (.sl nn 1 T.length (BW (wT T) (mkW (wT T) v))), .p false (.sl nn' 3 S.length (MK (v + 3 * (T.flatten.length : Nat))))], AI v] (AI (v + (mkN T S : Nat))) := by
  refine PRet.by chk38 (ev_hdM nn nn' T S v) ?_
  simp only [VC.holds_split, VC.holds_need, VC.holds_doneP, VC.holds_done, VC.holds_either, VC.holds_call, VC.holds_callE, VC.holds_lend, VC.holds_stop, VC.holds_fail, decide_eq_true_eq, decide_eq_false_iff_not]
  have e : v + ((mkN T S : Nat) : Int) = v + 3 * (T.flatten.length : Nat) + 3 * (S.length : Nat) := by unfold mkN; omega
  rw [e]
  refine ⟨c_hdBB' _ _ _ (by omega) (by omega) hv1 (by omega), fun h => by omega, fun h => ⟨c_hdBS _ _ _ (by omega) (by omega) (by omega), fun h2 => by omega, fun h2 => ?_⟩⟩
  simp
end Go.Gw
