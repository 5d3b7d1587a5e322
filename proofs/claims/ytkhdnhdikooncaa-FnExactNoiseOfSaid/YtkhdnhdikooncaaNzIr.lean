import Derived.Test.YtkhdnhdikooncaaFw9
import Derived.KernelRfl
import Derived.Test.YtkhdnhdikooncaaProg
namespace Go.Fw
open Go Go.Proofs
set_option maxRecDepth 100000
abbrev G0 : List (Nat × PV) := []
-- 8 loop.example/obliviousqueries/spec.JoinTags params 2
def ir8 : Ir :=
  (.seq
  (.reg [] [o 4 (.mov (ci 0))])
  (.seq
  (.seq
  (.reg [5, 6, 7, 8, 9, 10, 11] [o 5 (.mov (tt 0)),
    o 6 (.call 23 [(tt 5), (ci 0), (ci 200002)]),
    o 7 (.un .not (tt 6)),
    o 8 (.mov (tt 7)),
    og 9 8 false (.mov (tt 1)),
    og 10 8 false (.call 23 [(tt 9), (ci 0), (ci 200002)]),
    og 11 8 false (.un .not (tt 10)),
    o 12 (.pick (tt 8) (cb true) (tt 11))])
  (.cond (tt 12)
   (.seq
   (.reg [] [o 4 (.mov (ci (-1)))])
   .ret)
   .skip))
  (.seq
  (.reg [13, 14, 15, 16, 17, 18, 19] [o 13 (.mov (tt 0)),
    o 14 (.bin .mul (ci 31) (tt 13)),
    o 15 (.mov (tt 1)),
    o 16 (.bin .mul (ci 7919) (tt 15)),
    o 17 (.bin .add (tt 14) (tt 16)),
    o 18 (.bin .add (tt 17) (ci 17)),
    o 19 (.bin .rem (tt 18) (ci 200003)),
    o 4 (.mov (tt 19))])
  .ret)))
def keep8 : List Nat := [0, 1, 4, 12]
def res8 : List RI := [.tmp 4]
theorem chk8 : chk Try.prog 8 2 keep8 = some (ir8, res8) := by kernel_rfl
-- 9 loop.example/obliviousqueries/impl.JoinTags params 2
def ir9 : Ir :=
  (.seq
  (.reg [] [o 4 (.mov (ci 0))])
  (.seq
  (.seq
  (.reg [5, 6, 7, 8, 9, 10, 11] [o 5 (.mov (tt 0)),
    o 6 (.call 24 [(tt 5)]),
    o 7 (.un .not (tt 6)),
    o 8 (.mov (tt 7)),
    og 9 8 false (.mov (tt 1)),
    og 10 8 false (.call 24 [(tt 9)]),
    og 11 8 false (.un .not (tt 10)),
    o 12 (.pick (tt 8) (cb true) (tt 11))])
  (.cond (tt 12)
   (.seq
   (.reg [] [o 4 (.mov (ci (-1)))])
   .ret)
   .skip))
  (.seq
  (.reg [13, 14, 15, 16, 17, 18, 19] [o 13 (.mov (tt 0)),
    o 14 (.bin .mul (ci 31) (tt 13)),
    o 15 (.mov (tt 1)),
    o 16 (.bin .mul (ci 7919) (tt 15)),
    o 17 (.bin .add (tt 14) (tt 16)),
    o 18 (.bin .add (tt 17) (ci 17)),
    o 19 (.bin .rem (tt 18) (ci 200003)),
    o 4 (.mov (tt 19))])
  .ret)))
def keep9 : List Nat := [0, 1, 4, 12]
def res9 : List RI := [.tmp 4]
theorem chk9 : chk Try.prog 9 2 keep9 = some (ir9, res9) := by kernel_rfl
-- 23 loop.example/obliviousqueries/spec.l1In params 3
def ir23 : Ir :=
  (.seq
  (.reg [] [o 6 (.mov (cb false))])
  (.seq
  (.reg [7, 8, 9, 10, 11, 12, 13, 14] [o 7 (.mov (tt 0)),
    o 8 (.mov (tt 1)),
    o 9 (.bin .geq (tt 7) (tt 8)),
    o 10 (.mov (tt 9)),
    og 11 10 true (.mov (tt 0)),
    og 12 10 true (.mov (tt 2)),
    og 13 10 true (.bin .leq (tt 11) (tt 12)),
    o 14 (.pick (tt 10) (tt 13) (cb false)),
    o 6 (.mov (tt 14))])
  .ret))
def keep23 : List Nat := [0, 1, 2, 6]
def res23 : List RI := [.tmp 6]
theorem chk23 : chk Try.prog 23 3 keep23 = some (ir23, res23) := by kernel_rfl
-- 24 loop.example/obliviousqueries/impl.isTag params 1
def ir24 : Ir :=
  (.seq
  (.reg [] [o 2 (.mov (cb false))])
  (.seq
  (.reg [3, 4] [o 3 (.mov (tt 0)),
    o 4 (.call 29 [(tt 3), (ci 0), (ci 200002)]),
    o 2 (.mov (tt 4))])
  .ret))
def keep24 : List Nat := [0, 2]
def res24 : List RI := [.tmp 2]
theorem chk24 : chk Try.prog 24 1 keep24 = some (ir24, res24) := by kernel_rfl
-- 29 loop.example/obliviousqueries/impl.in params 3
def ir29 : Ir :=
  (.seq
  (.reg [] [o 6 (.mov (cb false))])
  (.seq
  (.reg [7, 8, 9, 10, 11, 12, 13, 14] [o 7 (.mov (tt 1)),
    o 8 (.mov (tt 0)),
    o 9 (.bin .leq (tt 7) (tt 8)),
    o 10 (.mov (tt 9)),
    og 11 10 true (.mov (tt 0)),
    og 12 10 true (.mov (tt 2)),
    og 13 10 true (.bin .leq (tt 11) (tt 12)),
    o 14 (.pick (tt 10) (tt 13) (cb false)),
    o 6 (.mov (tt 14))])
  .ret))
def keep29 : List Nat := [0, 1, 2, 6]
def res29 : List RI := [.tmp 6]
theorem chk29 : chk Try.prog 29 3 keep29 = some (ir29, res29) := by kernel_rfl
-- 33 loop.example/obliviousqueries/impl.isKey params 1
def ir33 : Ir :=
  (.seq
  (.reg [] [o 2 (.mov (cb false))])
  (.seq
  (.reg [3, 4] [o 3 (.mov (tt 0)),
    o 4 (.call 29 [(tt 3), (ci 0), (ci 1000000)]),
    o 2 (.mov (tt 4))])
  .ret))
def keep33 : List Nat := [0, 2]
def res33 : List RI := [.tmp 2]
theorem chk33 : chk Try.prog 33 1 keep33 = some (ir33, res33) := by kernel_rfl
-- 34 loop.example/obliviousqueries/impl.isNumber params 1
def ir34 : Ir :=
  (.seq
  (.reg [] [o 2 (.mov (cb false))])
  (.seq
  (.reg [3, 4] [o 3 (.mov (tt 0)),
    o 4 (.call 29 [(tt 3), (ci 0), (ci 1000000000)]),
    o 2 (.mov (tt 4))])
  .ret))
def keep34 : List Nat := [0, 2]
def res34 : List RI := [.tmp 2]
theorem chk34 : chk Try.prog 34 1 keep34 = some (ir34, res34) := by kernel_rfl
-- 35 loop.example/obliviousqueries/impl.stream params 3
def ir35_L1 : Ir :=
  (.seq
  (.reg [] [o 20 (.bin .lss (tt 19) (ci 3))])
  (.seq
  (.cond (tt 20)
   .skip
   (.exit 0))
  (.seq
  (.block 1
   (.seq
   (.reg [21] [o 21 (.mov (tt 19)),
     o 8 (.mov (tt 21))])
   (.reg [22, 23, 24, 25, 26, 27, 28, 29, 30] [o 22 (.mov (tt 7)),
     o 23 (.bin .mul (ci 48271) (tt 22)),
     o 24 (.mov (tt 0)),
     o 25 (.bin .add (tt 23) (tt 24)),
     o 26 (.mov (tt 1)),
     o 27 (.bin .add (tt 25) (tt 26)),
     o 28 (.mov (tt 8)),
     o 29 (.bin .add (tt 27) (tt 28)),
     o 30 (.bin .rem (tt 29) (ci 2147483647)),
     o 7 (.mov (tt 30))])))
  (.reg [31] [o 31 (.bin .add (tt 19) (ci 1)),
    o 19 (.mov (tt 31))]))))
def ir35_T2 : Ir :=
  (.seq
  (.reg [32, 33] [o 32 (.mov (tt 7)),
    o 33 (.bin .rem (tt 32) (ci 200003)),
    o 6 (.mov (tt 33))])
  .ret)
def ir35 : Ir :=
  (.seq
  (.reg [] [o 6 (.mov (ci 0))])
  (.seq
  (.reg [9, 10, 11, 12, 13, 14, 15, 16, 17, 18] [o 9 (.mov (tt 0)),
    o 10 (.bin .mul (ci 7) (tt 9)),
    o 11 (.mov (tt 1)),
    o 12 (.bin .mul (ci 13) (tt 11)),
    o 13 (.bin .add (tt 10) (tt 12)),
    o 14 (.mov (tt 2)),
    o 15 (.bin .mul (ci 29) (tt 14)),
    o 16 (.bin .add (tt 13) (tt 15)),
    o 17 (.bin .add (tt 16) (ci 11)),
    o 18 (.bin .rem (tt 17) (ci 2147483647)),
    o 7 (.mov (tt 18))])
  (.seq
  (.seq
  (.reg [] [o 19 (.mov (ci 0))])
  (.block 0
   (.loop ir35_L1)))
  ir35_T2)))
def keep35 : List Nat := [0, 1, 2, 6, 7, 8, 19, 20]
def res35 : List RI := [.tmp 6]
theorem chk35 : chk Try.prog 35 3 keep35 = some (ir35, res35) := by kernel_rfl
-- 32 loop.example/obliviousqueries/spec.l20Mix params 3
def ir32_L1 : Ir :=
  (.seq
  (.seq
  (.reg [19] [o 19 (.mov (tt 8)),
    o 20 (.bin .lss (tt 19) (ci 3))])
  (.cond (tt 20)
   .skip
   (.exit 0)))
  (.seq
  (.block 1
   (.reg [23, 24, 25, 26, 27, 28, 29, 30, 31] [o 23 (.mov (tt 7)),
     o 24 (.bin .mul (tt 23) (ci 48271)),
     o 25 (.mov (tt 0)),
     o 26 (.bin .add (tt 24) (tt 25)),
     o 27 (.mov (tt 1)),
     o 28 (.bin .add (tt 26) (tt 27)),
     o 29 (.mov (tt 8)),
     o 30 (.bin .add (tt 28) (tt 29)),
     o 31 (.bin .rem (tt 30) (ci 2147483647)),
     o 7 (.mov (tt 31))]))
  (.reg [21, 22] [o 21 (.mov (tt 8)),
    o 22 (.bin .add (tt 21) (ci 1)),
    o 8 (.mov (tt 22))])))
def ir32_T2 : Ir :=
  (.seq
  (.reg [32] [o 32 (.mov (tt 7)),
    o 6 (.mov (tt 32))])
  .ret)
def ir32 : Ir :=
  (.seq
  (.reg [] [o 6 (.mov (ci 0))])
  (.seq
  (.reg [9, 10, 11, 12, 13, 14, 15, 16, 17, 18] [o 9 (.mov (tt 0)),
    o 10 (.bin .mul (tt 9) (ci 7)),
    o 11 (.mov (tt 1)),
    o 12 (.bin .mul (tt 11) (ci 13)),
    o 13 (.bin .add (tt 10) (tt 12)),
    o 14 (.mov (tt 2)),
    o 15 (.bin .mul (tt 14) (ci 29)),
    o 16 (.bin .add (tt 13) (tt 15)),
    o 17 (.bin .add (tt 16) (ci 11)),
    o 18 (.bin .rem (tt 17) (ci 2147483647)),
    o 7 (.mov (tt 18))])
  (.seq
  (.seq
  (.reg [] [o 8 (.mov (ci 0))])
  (.block 0
   (.loop ir32_L1)))
  ir32_T2)))
def keep32 : List Nat := [0, 1, 2, 6, 7, 8, 20]
def res32 : List RI := [.tmp 6]
theorem chk32 : chk Try.prog 32 3 keep32 = some (ir32, res32) := by kernel_rfl
-- 25 loop.example/obliviousqueries/spec.StreamAt params 3
def ir25 : Ir :=
  (.seq
  (.reg [] [o 6 (.mov (ci 0))])
  (.seq
  (.seq
  (.reg [7, 8, 9, 10, 11, 12, 13, 14, 15, 16, 17, 18] [o 7 (.mov (tt 0)),
    o 8 (.call 23 [(tt 7), (ci 0), (ci 1000000)]),
    o 9 (.un .not (tt 8)),
    o 10 (.mov (tt 9)),
    og 11 10 false (.mov (tt 1)),
    og 12 10 false (.call 23 [(tt 11), (ci 0), (ci 1000000000)]),
    og 13 10 false (.un .not (tt 12)),
    o 14 (.pick (tt 10) (cb true) (tt 13)),
    o 15 (.mov (tt 14)),
    og 16 15 false (.mov (tt 2)),
    og 17 15 false (.call 23 [(tt 16), (ci 0), (ci 7)]),
    og 18 15 false (.un .not (tt 17)),
    o 19 (.pick (tt 15) (cb true) (tt 18))])
  (.cond (tt 19)
   (.seq
   (.reg [] [o 6 (.mov (ci (-1)))])
   .ret)
   .skip))
  (.seq
  (.reg [20, 21, 22, 23, 24] [o 20 (.mov (tt 0)),
    o 21 (.mov (tt 1)),
    o 22 (.mov (tt 2)),
    o 23 (.call 32 [(tt 20), (tt 21), (tt 22)]),
    o 24 (.bin .rem (tt 23) (ci 200003)),
    o 6 (.mov (tt 24))])
  .ret)))
def keep25 : List Nat := [0, 1, 2, 6, 19]
def res25 : List RI := [.tmp 6]
theorem chk25 : chk Try.prog 25 3 keep25 = some (ir25, res25) := by kernel_rfl
-- 26 loop.example/obliviousqueries/impl.noiseFits params 3
def ir26 : Ir :=
  (.seq
  (.reg [] [o 6 (.mov (cb false))])
  (.seq
  (.reg [7, 8, 9, 10, 11, 12, 13, 14, 15, 16] [o 7 (.mov (tt 0)),
    o 8 (.call 33 [(tt 7)]),
    o 9 (.mov (tt 8)),
    og 10 9 true (.mov (tt 1)),
    og 11 9 true (.call 34 [(tt 10)]),
    o 12 (.pick (tt 9) (tt 11) (cb false)),
    o 13 (.mov (tt 12)),
    og 14 13 true (.mov (tt 2)),
    og 15 13 true (.call 29 [(tt 14), (ci 0), (ci 1000)]),
    o 16 (.pick (tt 13) (tt 15) (cb false)),
    o 6 (.mov (tt 16))])
  .ret))
def keep26 : List Nat := [0, 1, 2, 6]
def res26 : List RI := [.tmp 6]
theorem chk26 : chk Try.prog 26 3 keep26 = some (ir26, res26) := by kernel_rfl
-- 27 loop.example/obliviousqueries/impl.StreamAt params 3
def ir27 : Ir :=
  (.seq
  (.reg [] [o 6 (.mov (ci 0))])
  (.seq
  (.seq
  (.reg [7, 8, 9, 10, 11, 12, 13, 14, 15, 16, 17, 18] [o 7 (.mov (tt 0)),
    o 8 (.call 33 [(tt 7)]),
    o 9 (.un .not (tt 8)),
    o 10 (.mov (tt 9)),
    og 11 10 false (.mov (tt 1)),
    og 12 10 false (.call 34 [(tt 11)]),
    og 13 10 false (.un .not (tt 12)),
    o 14 (.pick (tt 10) (cb true) (tt 13)),
    o 15 (.mov (tt 14)),
    og 16 15 false (.mov (tt 2)),
    og 17 15 false (.call 29 [(tt 16), (ci 0), (ci 7)]),
    og 18 15 false (.un .not (tt 17)),
    o 19 (.pick (tt 15) (cb true) (tt 18))])
  (.cond (tt 19)
   (.seq
   (.reg [] [o 6 (.mov (ci (-1)))])
   .ret)
   .skip))
  (.seq
  (.reg [20, 21, 22, 23] [o 20 (.mov (tt 0)),
    o 21 (.mov (tt 1)),
    o 22 (.mov (tt 2)),
    o 23 (.call 35 [(tt 20), (tt 21), (tt 22)]),
    o 6 (.mov (tt 23))])
  .ret)))
def keep27 : List Nat := [0, 1, 2, 6, 19]
def res27 : List RI := [.tmp 6]
theorem chk27 : chk Try.prog 27 3 keep27 = some (ir27, res27) := by kernel_rfl
-- 10 loop.example/obliviousqueries/spec.NoiseOf params 3
def ir10 : Ir :=
  (.seq
  (.reg [] [o 6 (.mov (ci 0))])
  (.seq
  (.seq
  (.reg [7, 8, 9, 10, 11, 12, 13, 14, 15, 16, 17, 18] [o 7 (.mov (tt 0)),
    o 8 (.call 23 [(tt 7), (ci 0), (ci 1000000)]),
    o 9 (.un .not (tt 8)),
    o 10 (.mov (tt 9)),
    og 11 10 false (.mov (tt 1)),
    og 12 10 false (.call 23 [(tt 11), (ci 0), (ci 1000000000)]),
    og 13 10 false (.un .not (tt 12)),
    o 14 (.pick (tt 10) (cb true) (tt 13)),
    o 15 (.mov (tt 14)),
    og 16 15 false (.mov (tt 2)),
    og 17 15 false (.call 23 [(tt 16), (ci 0), (ci 1000)]),
    og 18 15 false (.un .not (tt 17)),
    o 19 (.pick (tt 15) (cb true) (tt 18))])
  (.cond (tt 19)
   (.seq
   (.reg [] [o 6 (.mov (ci 0))])
   .ret)
   .skip))
  (.seq
  (.dreg [20, 21, 22, 23, 24, 25, 26, 27, 28, 29, 30, 31, 32] [0, 0, 3, 0, 8, 31, 0, 0, 199, 0, 512, 1991, 4095, 8191] [] [o 20 (.mov (tt 0)),
    o 21 (.mov (tt 1)),
    o 22 (.call 25 [(tt 20), (tt 21), (ci 0)]),
    o 23 (.mov (tt 2)),
    o 24 (.bin .add (tt 23) (ci 1)),
    o 25 (.bin .rem (tt 22) (tt 24)),
    o 26 (.mov (tt 0)),
    o 27 (.mov (tt 1)),
    o 28 (.call 25 [(tt 26), (tt 27), (ci 1)]),
    o 29 (.mov (tt 2)),
    o 30 (.bin .add (tt 29) (ci 1)),
    o 31 (.bin .rem (tt 28) (tt 30)),
    o 32 (.bin .sub (tt 25) (tt 31)),
    o 6 (.mov (tt 32))])
  .ret)))
def keep10 : List Nat := [0, 1, 2, 6, 19]
def res10 : List RI := [.tmp 6]
theorem chk10 : chk Try.prog 10 3 keep10 = some (ir10, res10) := by kernel_rfl
-- 11 loop.example/obliviousqueries/impl.NoiseOf params 3
def ir11 : Ir :=
  (.seq
  (.reg [] [o 6 (.mov (ci 0))])
  (.seq
  (.seq
  (.reg [7, 8, 9, 10] [o 7 (.mov (tt 0)),
    o 8 (.mov (tt 1)),
    o 9 (.mov (tt 2)),
    o 10 (.call 26 [(tt 7), (tt 8), (tt 9)]),
    o 11 (.un .not (tt 10))])
  (.cond (tt 11)
   (.seq
   (.reg [] [o 6 (.mov (ci 0))])
   .ret)
   .skip))
  (.seq
  (.dreg [12, 13, 14, 15, 16, 17, 18, 19, 20, 21, 22, 23, 24] [0, 0, 3, 0, 8, 31, 0, 0, 199, 0, 512, 1991, 4095, 8191] [] [o 12 (.mov (tt 0)),
    o 13 (.mov (tt 1)),
    o 14 (.call 27 [(tt 12), (tt 13), (ci 0)]),
    o 15 (.mov (tt 2)),
    o 16 (.bin .add (tt 15) (ci 1)),
    o 17 (.bin .rem (tt 14) (tt 16)),
    o 18 (.mov (tt 0)),
    o 19 (.mov (tt 1)),
    o 20 (.call 27 [(tt 18), (tt 19), (ci 1)]),
    o 21 (.mov (tt 2)),
    o 22 (.bin .add (tt 21) (ci 1)),
    o 23 (.bin .rem (tt 20) (tt 22)),
    o 24 (.bin .sub (tt 17) (tt 23)),
    o 6 (.mov (tt 24))])
  .ret)))
def keep11 : List Nat := [0, 1, 2, 6, 11]
def res11 : List RI := [.tmp 6]
theorem chk11 : chk Try.prog 11 3 keep11 = some (ir11, res11) := by kernel_rfl
-- 4 loop.example/obliviousqueries/laws.FnExactNoiseOf params 3
def ir4 : Ir :=
  (.seq
  (.reg [] [o 6 (.mov (cb false))])
  (.seq
  (.reg [9, 10, 11, 12] [o 9 (.mov (tt 0)),
    o 10 (.mov (tt 1)),
    o 11 (.mov (tt 2)),
    o 12 (.call 10 [(tt 9), (tt 10), (tt 11)]),
    o 7 (.mov (tt 12))])
  (.seq
  (.reg [13, 14, 15, 16] [o 13 (.mov (tt 0)),
    o 14 (.mov (tt 1)),
    o 15 (.mov (tt 2)),
    o 16 (.call 11 [(tt 13), (tt 14), (tt 15)]),
    o 8 (.mov (tt 16))])
  (.seq
  (.seq
  (.reg [17, 18] [o 17 (.mov (tt 8)),
    o 18 (.mov (tt 7)),
    o 19 (.bin .neq (tt 17) (tt 18))])
  (.cond (tt 19)
   (.seq
   (.reg [] [o 6 (.mov (cb false))])
   .ret)
   .skip))
  (.seq
  (.reg [] [o 6 (.mov (cb true))])
  .ret)))))
def keep4 : List Nat := [0, 1, 2, 6, 7, 8, 19]
def res4 : List RI := [.tmp 6]
theorem chk4 : chk Try.prog 4 3 keep4 = some (ir4, res4) := by kernel_rfl

end Go.Fw
