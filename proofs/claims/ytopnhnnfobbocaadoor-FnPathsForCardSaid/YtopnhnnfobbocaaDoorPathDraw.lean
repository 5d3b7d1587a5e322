/- Memories and uses drawn; with no condition. -/
import Derived.Test.YtopnhnnfobbocaaDoorPaths
import Derived.Test.YtopnhnnfobbocaaDoorDraw
import Derived.KernelRfl
namespace Go.Gw
open Go Go.Proofs
set_option linter.unusedSimpArgs false
set_option linter.unusedVariables false
set_option maxRecDepth 100000
def ir132_L1 : Ir :=
  (.seq
  (.seq
  (.reg [10] [o 10 (.mov (tt 6)),
    o 11 (.bin .gtr (tt 10) (ci 0))])
  (.cond (tt 11)
   .skip
   (.exit 0)))
  (.seq
  (.block 1
   (.reg [14, 15, 16, 17, 18, 19, 20, 21, 22, 23, 24, 25, 26] [o 14 (.mov (tt 5)),
     o 15 (.mov (tt 0)),
     o 16 (.call 87 [(tt 15), (ci 8)]),
     o 17 (.mov (tt 0)),
     o 18 (.call 87 [(tt 17), (ci 2)]),
     o 19 (.bin .eql (tt 18) (ci 0)),
     o 20 (.mov (tt 0)),
     o 21 (.call 87 [(tt 20), (ci 256)]),
     o 22 (.mov (tt 0)),
     o 23 (.call 87 [(tt 22), (ci 4)]),
     o 24 (.build [(.int .i64 0), (.bool false), (.int .i64 0), (.int .i64 0)] [(0, 1, (tt 16)), (1, 1, (tt 19)), (2, 1, (tt 21)), (3, 1, (tt 23))]),
     o 25 (.mkSl 4 1 [(.int .i64 0), (.bool false), (.int .i64 0), (.int .i64 0)] [(0, (tt 24))]),
     o 26 (.app 4 32 true (tt 14) (tt 25)),
     o 5 (.mov (tt 26))]))
  (.reg [12, 13] [o 12 (.mov (tt 6)),
    o 13 (.bin .sub (tt 12) (ci 1)),
    o 6 (.mov (tt 13))])))
def ir132_C1 : Ir :=
  (.reg [30, 31, 32, 33, 34, 35, 36, 37, 38, 39, 40, 41] [o 30 (.mov (tt 5)),
     o 31 (.build [(.int .i64 0), (.bool false), (.int .i64 0), (.int .i64 0)] [(0, 1, (ci 8))]),
     o 32 (.build [(.int .i64 0), (.bool false), (.int .i64 0), (.int .i64 0)] [(0, 1, (ci (-1)))]),
     o 33 (.build [(.int .i64 0), (.bool false), (.int .i64 0), (.int .i64 0)] [(3, 1, (ci 4))]),
     o 34 (.build [(.int .i64 0), (.bool false), (.int .i64 0), (.int .i64 0)] [(2, 1, (ci 100001))]),
     o 35 (.mkSl 4 4 [(.int .i64 0), (.bool false), (.int .i64 0), (.int .i64 0)] [(0, (tt 31)), (1, (tt 32)), (2, (tt 33)), (3, (tt 34))]),
     o 36 (.mov (tt 0)),
     o 37 (.call 87 [(tt 36), (ci 4)]),
     o 38 (.idx 4 (tt 35) (tt 37)),
     o 39 (.load true 4 (tt 38)),
     o 40 (.mkSl 4 1 [(.int .i64 0), (.bool false), (.int .i64 0), (.int .i64 0)] [(0, (tt 39))]),
     o 41 (.app 4 32 true (tt 30) (tt 40)),
     o 5 (.mov (tt 41))])
def ir132_D1 : Ir :=
  (.seq
  (.reg [42] [o 42 (.mov (tt 5)),
    o 4 (.mov (tt 42))])
  .ret)
def ir132_T2 : Ir :=
  (.seq
  (.seq
  (.reg [27, 28] [o 27 (.mov (tt 0)),
    o 28 (.mov (tt 1)),
    o 29 (.call 106 [(tt 27), (tt 28)])])
  (.cond (tt 29)
   ir132_C1
   .skip))
  ir132_D1)
def ir132 : Ir :=
  (.seq
  (.reg [] [o 4 (.mov (.const (.slice none 0 0)))])
  (.seq
  (.reg [7] [o 7 (.mkSl 4 0 [(.int .i64 0), (.bool false), (.int .i64 0), (.int .i64 0)] []),
    o 5 (.mov (tt 7))])
  (.seq
  (.seq
  (.reg [8, 9] [o 8 (.mov (tt 0)),
    o 9 (.call 87 [(tt 8), (ci 12)]),
    o 6 (.mov (tt 9))])
  (.block 0
   (.loop ir132_L1)))
  ir132_T2)))
def keep132 : List Nat := [0, 1, 4, 5, 6, 11, 29]
def res132 : List RI := [.tmp 4]
theorem chk132 : chk Tryd.prog 132 2 keep132 = some (ir132, res132) := by kernel_rfl
def ir164_L1 : Ir :=
  (.seq
  (.seq
  (.reg [9] [o 9 (.mov (tt 6)),
    o 10 (.bin .lss (tt 9) (ci 7))])
  (.cond (tt 10)
   .skip
   (.exit 0)))
  (.seq
  (.block 1
   (.reg [13, 14, 15, 16, 17, 18] [o 13 (.fadr 0 (tt 5)),
     o 14 (.load false 1 (tt 13)),
     o 15 (.mkSl 3 0 [(.int .i64 0), (.int .i64 0), (.int .i64 0)] []),
     o 16 (.mkSl 1 1 [(.slice none 0 0)] [(0, (tt 15))]),
     o 17 (.app 1 24 false (tt 14) (tt 16)),
     o 18 (.fadr 0 (tt 5)),
     on (.store 1 (tt 18) (tt 17))]))
  (.reg [11, 12] [o 11 (.mov (tt 6)),
    o 12 (.bin .add (tt 11) (ci 1)),
    o 6 (.mov (tt 12))])))
def ir164_L2 : Ir :=
  (.seq
  (.seq
  (.reg [19, 20, 21, 22, 23, 24, 25, 26, 27] [o 19 (.mov (tt 7)),
    o 20 (.mov (tt 0)),
    o 21 (.len (tt 20)),
    o 22 (.bin .lss (tt 19) (tt 21)),
    o 23 (.mov (tt 22)),
    og 24 23 true (.mov (tt 7)),
    og 25 23 true (.mov (tt 1)),
    og 26 23 true (.len (tt 25)),
    og 27 23 true (.bin .lss (tt 24) (tt 26)),
    o 28 (.pick (tt 23) (tt 27) (cb false))])
  (.cond (tt 28)
   .skip
   (.exit 2)))
  (.seq
  (.block 3
   (.dreg [31, 32, 33, 34, 35, 36, 37, 38, 39, 40, 41, 42, 43, 44, 45] [0, 1, 0, 0, 0, 24, 56, 0, 0, 384, 896, 2044, 4092, 8191, 16383, 32767] [(1, 1032), (6, 1037), (10, 1041), (12, 43), (13, 44)] [o 31 (.fadr 1 (tt 5)),
     o 32 (.load false 1 (tt 31)),
     o 33 (.mov (tt 7)),
     o 34 (.mov (tt 0)),
     o 35 (.mov (tt 7)),
     o 36 (.idx 1 (tt 34) (tt 35)),
     o 37 (.load false 1 (tt 36)),
     o 38 (.mov (tt 1)),
     o 39 (.mov (tt 7)),
     o 40 (.idx 1 (tt 38) (tt 39)),
     o 41 (.load false 1 (tt 40)),
     o 42 (.build [(.int .i64 0), (.int .i64 0), (.int .i64 0)] [(0, 1, (tt 33)), (1, 1, (tt 37)), (2, 1, (tt 41))]),
     o 43 (.mkSl 3 1 [(.int .i64 0), (.int .i64 0), (.int .i64 0)] [(0, (tt 42))]),
     o 44 (.app 3 24 true (tt 32) (tt 43)),
     o 45 (.fadr 1 (tt 5)),
     on (.store 1 (tt 45) (tt 44))]))
  (.reg [29, 30] [o 29 (.mov (tt 7)),
    o 30 (.bin .add (tt 29) (ci 1)),
    o 7 (.mov (tt 30))])))
def ir164_T3 : Ir :=
  (.seq
  (.seq
  (.reg [46, 47, 48, 49, 50, 51, 52, 53, 54, 55, 56, 57] [o 46 (.mov (tt 0)),
    o 47 (.len (tt 46)),
    o 48 (.bin .neq (tt 47) (ci 8)),
    o 49 (.mov (tt 48)),
    og 50 49 false (.mov (tt 1)),
    og 51 49 false (.len (tt 50)),
    og 52 49 false (.bin .neq (tt 51) (ci 8)),
    o 53 (.pick (tt 49) (cb true) (tt 52)),
    o 54 (.mov (tt 53)),
    og 55 54 false (.load true 2 (tt 5)),
    og 56 54 false (.call 63 [(tt 55)]),
    og 57 54 false (.un .not (tt 56)),
    o 58 (.pick (tt 54) (cb true) (tt 57))])
  (.cond (tt 58)
   (.seq
   (.reg [59] [o 59 (.build [(.slice none 0 0), (.slice none 0 0)] []),
     on (.store 2 (tt 4) (tt 59))])
   .ret)
   .skip))
  (.seq
  (.reg [60] [o 60 (.load true 2 (tt 5)),
    on (.store 2 (tt 4) (tt 60))])
  .ret))
def ir164_T4 : Ir :=
  (.seq
  (.seq
  (.reg [] [o 7 (.mov (ci 0))])
  (.block 2
   (.loop ir164_L2)))
  ir164_T3)
def ir164 : Ir :=
  (.seq
  (.reg [] [o 4 (.alloc [(.slice none 0 0), (.slice none 0 0)])])
  (.seq
  (.reg [8] [o 8 (.build [(.slice none 0 0), (.slice none 0 0)] []),
    o 5 (.alloc [(.slice none 0 0), (.slice none 0 0)]),
    on (.store 2 (tt 5) (tt 8))])
  (.seq
  (.seq
  (.reg [] [o 6 (.mov (ci 0))])
  (.block 0
   (.loop ir164_L1)))
  ir164_T4)))
def keep164 : List Nat := [0, 1, 4, 5, 6, 7, 10, 28, 58]
def res164 : List RI := [.cell true 2 4]
theorem chk164 : chk Tryd.prog 164 2 keep164 = some (ir164, res164) := by kernel_rfl
def ir131_L1 : Ir :=
  (.seq
  (.seq
  (.reg [14] [o 14 (.mov (tt 7)),
    o 15 (.bin .lss (tt 14) (ci 8))])
  (.cond (tt 15)
   .skip
   (.exit 0)))
  (.seq
  (.block 1
   (.seq
   (.reg [18, 19, 20, 21, 22, 23] [o 18 (.mov (tt 5)),
     o 19 (.mov (tt 0)),
     o 20 (.call 87 [(tt 19), (ci 256)]),
     o 21 (.bin .sub (tt 20) (ci 100)),
     o 22 (.mkSl 1 1 [(.int .i64 0)] [(0, (tt 21))]),
     o 23 (.app 1 8 true (tt 18) (tt 22)),
     o 5 (.mov (tt 23))])
   (.reg [24, 25, 26, 27, 28] [o 24 (.mov (tt 6)),
     o 25 (.mov (tt 0)),
     o 26 (.call 87 [(tt 25), (ci 4)]),
     o 27 (.mkSl 1 1 [(.int .i64 0)] [(0, (tt 26))]),
     o 28 (.app 1 8 true (tt 24) (tt 27)),
     o 6 (.mov (tt 28))])))
  (.reg [16, 17] [o 16 (.mov (tt 7)),
    o 17 (.bin .add (tt 16) (ci 1)),
    o 7 (.mov (tt 17))])))
def ir131_C1 : Ir :=
  (.reg [48, 49, 50, 51] [o 48 (.fadr 0 (tt 8)),
       o 49 (.load false 1 (tt 48)),
       o 50 (.slc 1 (tt 49) (some (ci 1)) none),
       o 51 (.fadr 0 (tt 8)),
       on (.store 1 (tt 51) (tt 50))])
def ir131_D1 : Ir :=
  (.seq
  (.reg [80] [o 80 (.load true 2 (tt 8)),
    on (.store 2 (tt 4) (tt 80))])
  .ret)
def ir131_T2 : Ir :=
  (.seq
  (.reg [30, 31, 32, 33, 34, 35, 29, 36, 37, 38, 39, 9, 10, 11] [o 30 (.mov (tt 5)),
    o 31 (.mov (tt 6)),
    o 32 (.call 164 [(tt 30), (tt 31)]),
    o 33 (.mov (tt 0)),
    o 34 (.call 132 [(tt 33), (ci 0)]),
    o 35 (.call 163 [(tt 32), (tt 34)]),
    o 29 (.mov (tt 35)),
    o 36 (.ext (tt 29) 0),
    o 37 (.ext (tt 29) 1),
    o 38 (.ext (tt 29) 2),
    o 39 (.ext (tt 29) 3),
    o 8 (.alloc [(.slice none 0 0), (.slice none 0 0)]),
    on (.store 2 (tt 8) (tt 36)),
    o 9 (.mov (tt 37)),
    o 10 (.mov (tt 38)),
    o 11 (.mov (tt 39))])
  (.seq
  (.seq
  (.reg [40, 41] [o 40 (.mov (tt 0)),
    o 41 (.mov (tt 1)),
    o 42 (.call 106 [(tt 40), (tt 41)])])
  (.cond (tt 42)
   (.seq
   (.reg [43] [o 43 (.mov (tt 0)),
     o 44 (.call 87 [(tt 43), (ci 5)])])
   (.block 2
    (.seq
    (.reg [47] [o 47 (.bin .eql (tt 44) (ci 0)),
      o 46 (.mov (tt 47))])
    (.cond (tt 46)
     ir131_C1
     (.seq
     (.reg [53] [o 53 (.bin .eql (tt 44) (ci 1)),
       o 52 (.mov (tt 53))])
     (.cond (tt 52)
      (.dreg [54, 55, 56, 57, 58, 59, 60, 61] [0, 1, 0, 4, 12, 28, 63, 127, 255] [(1, 1055), (3, 1057), (3, 2057), (3, 3057), (3, 4057), (3, 5057), (3, 6057), (3, 7057), (3, 8057), (5, 59), (6, 60)] [o 54 (.fadr 1 (tt 8)),
        o 55 (.load false 1 (tt 54)),
        o 56 (.mov (tt 0)),
        o 57 (.call 87 [(tt 56), (ci 9)]),
        o 58 (.build [(.int .i64 0), (.int .i64 0), (.int .i64 0)] [(0, 1, (tt 57))]),
        o 59 (.mkSl 3 1 [(.int .i64 0), (.int .i64 0), (.int .i64 0)] [(0, (tt 58))]),
        o 60 (.app 3 24 true (tt 55) (tt 59)),
        o 61 (.fadr 1 (tt 8)),
        on (.store 1 (tt 61) (tt 60))])
      (.seq
      (.reg [63] [o 63 (.bin .eql (tt 44) (ci 2)),
        o 62 (.mov (tt 63))])
      (.cond (tt 62)
       (.dreg [64, 65, 66, 67, 68, 69, 70, 71, 72] [0, 1, 0, 4, 0, 0, 0, 112, 255, 511] [(1, 1065), (3, 1067), (3, 2067), (3, 3067), (3, 4067), (3, 5067), (3, 6067), (3, 7067), (3, 8067), (7, 71)] [o 64 (.fadr 0 (tt 8)),
         o 65 (.load false 1 (tt 64)),
         o 66 (.mov (tt 0)),
         o 67 (.call 87 [(tt 66), (ci 7)]),
         o 68 (.build [(.int .i64 0), (.int .i64 0), (.int .i64 0)] []),
         o 69 (.build [(.int .i64 0), (.int .i64 0), (.int .i64 0)] []),
         o 70 (.build [(.int .i64 0), (.int .i64 0), (.int .i64 0)] []),
         o 71 (.mkSl 3 3 [(.int .i64 0), (.int .i64 0), (.int .i64 0)] [(0, (tt 68)), (1, (tt 69)), (2, (tt 70))]),
         o 72 (.idx 1 (tt 65) (tt 67)),
         on (.store 1 (tt 72) (tt 71))])
       (.seq
       (.reg [74] [o 74 (.bin .eql (tt 44) (ci 3)),
         o 73 (.mov (tt 74))])
       (.cond (tt 73)
        (.reg [75, 76, 77, 78, 79] [o 75 (.fadr 0 (tt 8)),
          o 76 (.load false 1 (tt 75)),
          o 77 (.build [(.int .i64 0), (.int .i64 0), (.int .i64 0)] [(2, 1, (ci 2))]),
          o 78 (.mkSl 3 1 [(.int .i64 0), (.int .i64 0), (.int .i64 0)] [(0, (tt 77))]),
          o 79 (.idx 1 (tt 76) (ci 3)),
          on (.store 1 (tt 79) (tt 78))])
        (.reg [45] [o 45 (.build [(.slice none 0 0), (.slice none 0 0)] []),
          on (.store 2 (tt 8) (tt 45))])))))))))))
   .skip))
  ir131_D1))
def ir131 : Ir :=
  (.seq
  (.reg [] [o 4 (.alloc [(.slice none 0 0), (.slice none 0 0)])])
  (.seq
  (.reg [12] [o 12 (.mkSl 1 0 [(.int .i64 0)] []),
    o 5 (.mov (tt 12))])
  (.seq
  (.reg [13] [o 13 (.mkSl 1 0 [(.int .i64 0)] []),
    o 6 (.mov (tt 13))])
  (.seq
  (.seq
  (.reg [] [o 7 (.mov (ci 0))])
  (.block 0
   (.loop ir131_L1)))
  ir131_T2))))
def keep131 : List Nat := [0, 1, 4, 5, 6, 7, 8, 15, 42, 44, 46, 52, 62, 73]
def res131 : List RI := [.cell true 2 4]
theorem chk131 : chk Tryd.prog 131 2 keep131 = some (ir131, res131) := by kernel_rfl
def ir57 : Ir :=
  (.seq
  (.reg [] [o 2 (.alloc [(.slice none 0 0), (.slice none 0 0)]),
    o 3 (.mov (.const (.slice none 0 0)))])
  (.seq
  (.reg [6, 7] [o 6 (.mov (tt 0)),
    o 7 (.call 85 [(tt 6)]),
    o 4 (.mov (tt 7))])
  (.seq
  (.reg [8, 9] [o 8 (.mov (tt 4)),
    o 9 (.call 131 [(tt 8), (ci 12)]),
    o 5 (.alloc [(.slice none 0 0), (.slice none 0 0)]),
    on (.store 2 (tt 5) (tt 9))])
  (.seq
  (.seq
  (.reg [10] [o 10 (.mov (tt 4)),
    o 11 (.call 106 [(tt 10), (ci 24)])])
  (.cond (tt 11)
   (.seq
   (.dreg [12, 13] [0, 0, 1, 7] [(0, 1012), (0, 2012), (1, 13)] [o 12 (.load true 2 (tt 5)),
     o 13 (.mkSlc 4 32 [(.int .i64 0), (.bool false), (.int .i64 0), (.int .i64 0)] (ci 41) (ci 41)),
     on (.store 2 (tt 2) (tt 12)),
     o 3 (.mov (tt 13))])
   .ret)
   .skip))
  (.seq
  (.dreg [14, 15, 16] [0, 0, 2, 7, 15] [(0, 1014), (0, 2014), (2, 1016), (2, 2016), (2, 3016), (2, 4016), (2, 5016), (2, 6016), (2, 7016), (2, 8016)] [o 14 (.load true 2 (tt 5)),
    o 15 (.mov (tt 4)),
    o 16 (.call 132 [(tt 15), (ci 12)]),
    on (.store 2 (tt 2) (tt 14)),
    o 3 (.mov (tt 16))])
  .ret)))))
def keep57 : List Nat := [0, 2, 3, 4, 5, 11]
def res57 : List RI := [.cell true 2 2, .tmp 3]
theorem chk57 : chk Tryd.prog 57 1 keep57 = some (ir57, res57) := by kernel_rfl
def ir14 : Ir :=
  (.seq
  (.reg [] [o 2 (.alloc [(.slice none 0 0), (.slice none 0 0)]),
    o 3 (.mov (.const (.slice none 0 0)))])
  (.seq
  (.reg [4, 5, 6, 7] [o 4 (.mov (tt 0)),
    o 5 (.call 57 [(tt 4)]),
    o 6 (.ext (tt 5) 0),
    o 7 (.ext (tt 5) 1),
    on (.store 2 (tt 2) (tt 6)),
    o 3 (.mov (tt 7))])
  .ret))
def keep14 : List Nat := [0, 2, 3]
def res14 : List RI := [.cell true 2 2, .tmp 3]
theorem chk14 : chk Tryd.prog 14 1 keep14 = some (ir14, res14) := by kernel_rfl

theorem PObj.some' {P : Program} {G : List (Nat × PV)} {f : FuncId} {args : List AV} {H H' : List (Nat × Ob)} {r : AV} {α : Type} {φ : α → Prop} {rr : α → AV} {HH : α → List (Nat × Ob)} (h : PObj P G f args H r H') (y : α) (hy : φ y) (h1 : r = rr y) (h2 : H' = HH y) : PSome P G f args H α φ rr HH :=
  PObj.imp h fun x h' ⟨e1, e2⟩ => ⟨y, hy, e1.trans h1, e2.trans h2⟩
theorem c_pkS (nn : Bool) (n : Nat) (f : Nat → Int) (p : Nat) (m : Int) (hb : Bytes f) (hp : p ≤ 1000000000) (hm : 1 ≤ m) : PSome Tryd.prog G0 87 [.adr 0 0, AI m] [(0, RD nn n f p)] Int (fun y => 0 ≤ y ∧ y < m) (fun y => AI y) (fun _ => [(0, RD nn n f (p + 1))]) :=
  (c_pick nn n f p m hb hp).some' _ (pick_rng hb hp hm) rfl rfl
theorem oddP_ge' (p : Nat) (m : Int) : p ≤ oddP p m := by unfold oddP; split <;> omega
theorem odd_no {n : Nat} {f : Nat → Int} {p : Nat} {m : Int} (h : m ≤ 0) : oddV n f p m = false := by
  unfold oddV
  have : ¬ 0 < m := by omega
  simp [this]
theorem c_odS (nn : Bool) (n : Nat) (f : Nat → Int) (p : Nat) (m : Int) (hb : Bytes f) (hp : p ≤ 1000000000) : PSome Tryd.prog G0 106 [.adr 0 0, AI m] [(0, RD nn n f p)] (Bool × Nat) (fun y => p ≤ y.2 ∧ y.2 ≤ p + 1 ∧ (m ≤ 0 → y.1 = false)) (fun y => AB y.1) (fun y => [(0, RD nn n f y.2)]) :=
  (c_odd nn n f p m hb hp).some' (oddV n f p m, oddP p m) ⟨oddP_ge' p m, oddP_le p m, odd_no⟩ rfl rfl
/-! ### uses -/
def usOk (u : Us) : Bool := inB u.a 0 7 && valB u.v && inB u.l 0 3
structure UsD (p : Nat) (n : Int) (y : List Us × Nat) : Prop where
  hl : y.1.length ≤ 13
  hp : p ≤ y.2 ∧ y.2 ≤ p + 60
  ok : n ≤ 0 → y.1.length ≤ 12 ∧ ∀ u, u ∈ y.1 → usOk u = true
abbrev usD (nn : Bool) (n : Nat) (f : Nat → Int) (y : List Us × Nat) : List (Nat × Ob) := [(0, RD nn n f y.2), (1, .row .u false 4 y.1.length (UB y.1) [])]
def in_dU (nn : Bool) (n : Nat) (f : Nat → Int) (p : Nat) (m : Int) := (G0, res132, [(0, RD nn n f p)], [Item.ir ir132], start [.adr 0 0, AI m] [(0, RD nn n f p)])
theorem ev_dU : ∀ (nn : Bool) (n : Nat) (f : Nat → Int) (p : Nat) (m : Int), ev G0 res132 [((0 : Nat), RD nn n f p)] (3000 : Nat) (Or.call [(100000 : Nat)] (AI (pickV n f p (12 : Int))) [((0 : Nat), RD nn n f (p + (1 : Nat)))] Or.nil) [Item.ir ir132] (start [AV.adr (0 : Nat) (0 : Nat), AI m] [((0 : Nat), RD nn n f p)]) = VC.call (87 : Nat) [AV.adr (0 : Nat) (0 : Nat), AV.p true (PV.v (Value.int IntKind.i64 (12 : Int)))] [((0 : Nat), Ob.box [AV.p false (PV.sl nn (1 : Nat) n (PB f)), AV.p true (PV.v (Value.int IntKind.i64 (↑p : Int)))])] (AI (pickV n f p (12 : Int))) [((0 : Nat), RD nn n f (p + (1 : Nat)))] (VC.loop ir132_L1 [Item.bend (0 : Nat), Item.ir ir132_T2] (St.mk [((0 : Nat), AV.adr (100000 : Nat) (0 : Nat)), ((1 : Nat), AV.p true (PV.v (Value.int IntKind.i64 m))), ((4 : Nat), AV.p true (PV.v (Value.slice none (0 : Nat) (0 : Nat)))), ((5 : Nat), AV.own (7 : Nat)), ((6 : Nat), AV.p true (PV.v (Value.int IntKind.i64 (pickV n f p (12 : Int)))))] [((100000 : Nat), Ob.box [AV.p false (PV.sl nn (1 : Nat) n (PB f)), AV.p true (PV.v (Value.int IntKind.i64 (↑(p + (1 : Nat)) : Int)))]), ((7 : Nat), Ob.row Mode.u true (4 : Nat) (0 : Nat) (setG [] fun (x j : Nat) => PV.v ([Value.int IntKind.i64 (0 : Int), Value.bool false, Value.int IntKind.i64 (0 : Int), Value.int IntKind.i64 (0 : Int)].getD j undef)) [])])) := by intros; kernel_rfl
def st_dU (nn : Bool) (n : Nat) (f : Nat → Int) (p : Nat) (m K : Int) (U : List Us) : St := ⟨[(0, .adr 100000 0), (1, AI m), (4, nilA), (5, .own 7), (6, AI (K - (U.length : Int)))], [(100000, RD nn n f (p + 1 + 4 * U.length)), (7, .row .u false 4 U.length (UB U) [])]⟩
def r_dU (nn : Bool) (n : Nat) (f : Nat → Int) (p0 p : Nat) (m K : Int) (I : List Us → St → Prop) (U : List Us) := (G0, res132, [(0, RD nn n f p0)], [Item.ir ir132_L1, .lend (I U), Item.bend 0, Item.ir ir132_T2], st_dU nn n f p m K U)
theorem evr_dU : ∀ (nn : Bool) (n : Nat) (f : Nat → Int) (p0 p : Nat) (m K : Int) (I : List Us → St → Prop) (U : List Us), ev G0 res132 [((0 : Nat), RD nn n f p0)] (3000 : Nat) ((Or.call [(100000 : Nat)] (AI (pickV n f (p + (1 : Nat) + (4 : Nat) * U.length) (8 : Int))) [((0 : Nat), RD nn n f (p + (1 : Nat) + (4 : Nat) * U.length + (1 : Nat)))] (Or.call [(100000 : Nat)] (AI (pickV n f (p + (1 : Nat) + (4 : Nat) * U.length + (1 : Nat)) (2 : Int))) [((0 : Nat), RD nn n f (p + (1 : Nat) + (4 : Nat) * U.length + (1 : Nat) + (1 : Nat)))] (Or.call [(100000 : Nat)] (AI (pickV n f (p + (1 : Nat) + (4 : Nat) * U.length + (1 : Nat) + (1 : Nat)) (256 : Int))) [((0 : Nat), RD nn n f (p + (1 : Nat) + (4 : Nat) * U.length + (1 : Nat) + (1 : Nat) + (1 : Nat)))] (Or.call [(100000 : Nat)] (AI (pickV n f (p + (1 : Nat) + (4 : Nat) * U.length + (1 : Nat) + (1 : Nat) + (1 : Nat)) (4 : Int))) [((0 : Nat), RD nn n f (p + (1 : Nat) + (4 : Nat) * U.length + (1 : Nat) + (1 : Nat) + (1 : Nat) + (1 : Nat)))] Or.nil)))).split (Or.call [(100000 : Nat)] (AB (oddV n f (p + (1 : Nat) + (4 : Nat) * U.length) m)) [((0 : Nat), RD nn n f (oddP (p + (1 : Nat) + (4 : Nat) * U.length) m))] ((Or.stop (0 : Nat)).split Or.nil))) [Item.ir ir132_L1, Item.lend (I U), Item.bend (0 : Nat), Item.ir ir132_T2] (st_dU nn n f p m K U) = VC.split (decide ((0 : Int) < K - (↑U.length : Int))) (VC.call (87 : Nat) [AV.adr (0 : Nat) (0 : Nat), AV.p true (PV.v (Value.int IntKind.i64 (8 : Int)))] [((0 : Nat), Ob.box [AV.p false (PV.sl nn (1 : Nat) n (PB f)), AV.p true (PV.v (Value.int IntKind.i64 (↑(p + (1 : Nat) + (4 : Nat) * U.length) : Int)))])] (AI (pickV n f (p + (1 : Nat) + (4 : Nat) * U.length) (8 : Int))) [((0 : Nat), RD nn n f (p + (1 : Nat) + (4 : Nat) * U.length + (1 : Nat)))] (VC.call (87 : Nat) [AV.adr (0 : Nat) (0 : Nat), AV.p true (PV.v (Value.int IntKind.i64 (2 : Int)))] [((0 : Nat), Ob.box [AV.p false (PV.sl nn (1 : Nat) n (PB f)), AV.p true (PV.v (Value.int IntKind.i64 (↑(p + (1 : Nat) + (4 : Nat) * U.length + (1 : Nat)) : Int)))])] (AI (pickV n f (p + (1 : Nat) + (4 : Nat) * U.length + (1 : Nat)) (2 : Int))) [((0 : Nat), RD nn n f (p + (1 : Nat) + (4 : Nat) * U.length + (1 : Nat) + (1 : Nat)))] (VC.call (87 : Nat) [AV.adr (0 : Nat) (0 : Nat), AV.p true (PV.v (Value.int IntKind.i64 (256 : Int)))] [((0 : Nat), Ob.box [AV.p false (PV.sl nn (1 : Nat) n (PB f)), AV.p true (PV.v (Value.int IntKind.i64 (↑(p + (1 : Nat) + (4 : Nat) * U.length + (1 : Nat) + (1 : Nat)) : Int)))])] (AI (pickV n f (p + (1 : Nat) + (4 : Nat) * U.length + (1 : Nat) + (1 : Nat)) (256 : Int))) [((0 : Nat), RD nn n f (p + (1 : Nat) + (4 : Nat) * U.length + (1 : Nat) + (1 : Nat) + (1 : Nat)))] (VC.call (87 : Nat) [AV.adr (0 : Nat) (0 : Nat), AV.p true (PV.v (Value.int IntKind.i64 (4 : Int)))] [((0 : Nat), Ob.box [AV.p false (PV.sl nn (1 : Nat) n (PB f)), AV.p true (PV.v (Value.int IntKind.i64 (↑(p + (1 : Nat) + (4 : Nat) * U.length + (1 : Nat) + (1 : Nat) + (1 : Nat)) : Int)))])] (AI (pickV n f (p + (1 : Nat) + (4 : Nat) * U.length + (1 : Nat) + (1 : Nat) + (1 : Nat)) (4 : Int))) [((0 : Nat), RD nn n f (p + (1 : Nat) + (4 : Nat) * U.length + (1 : Nat) + (1 : Nat) + (1 : Nat) + (1 : Nat)))] (VC.need (((U.length + (1 : Nat)) * (32 : Nat) ≤ (140737488355328 : Nat) ∧ (↑(U.length + (1 : Nat)) : Int) ≤ (9223372036854775807 : Int)) ∧ allV (4 : Nat) (1 : Nat) (setG [((0 : Nat), (0 : Nat), PV.v (Value.int IntKind.i64 (pickV n f (p + (1 : Nat) + (4 : Nat) * U.length) (8 : Int)))), ((0 : Nat), (1 : Nat), PV.v (Value.bool (pickV n f (p + (1 : Nat) + (4 : Nat) * U.length + (1 : Nat)) (2 : Int) == (0 : Int)))), ((0 : Nat), (2 : Nat), PV.v (Value.int IntKind.i64 (pickV n f (p + (1 : Nat) + (4 : Nat) * U.length + (1 : Nat) + (1 : Nat)) (256 : Int)))), ((0 : Nat), (3 : Nat), PV.v (Value.int IntKind.i64 (pickV n f (p + (1 : Nat) + (4 : Nat) * U.length + (1 : Nat) + (1 : Nat) + (1 : Nat)) (4 : Int))))] fun (x j : Nat) => PV.v ([Value.int IntKind.i64 (0 : Int), Value.bool false, Value.int IntKind.i64 (0 : Int), Value.int IntKind.i64 (0 : Int)].getD j undef))) (VC.lend (I U) (St.mk [((0 : Nat), AV.adr (100000 : Nat) (0 : Nat)), ((1 : Nat), AV.p true (PV.v (Value.int IntKind.i64 m))), ((4 : Nat), AV.p true (PV.v (Value.slice none (0 : Nat) (0 : Nat)))), ((5 : Nat), AV.own (26 : Nat)), ((6 : Nat), AV.p true (PV.v (Value.int IntKind.i64 (IntKind.i64.wrap (K - (↑U.length : Int) - (1 : Int)))))), ((11 : Nat), AV.p true (PV.v (Value.bool (decide ((0 : Int) < K - (↑U.length : Int))))))] [((100000 : Nat), Ob.box [AV.p false (PV.sl nn (1 : Nat) n (PB f)), AV.p true (PV.v (Value.int IntKind.i64 (↑(p + (1 : Nat) + (4 : Nat) * U.length + (1 : Nat) + (1 : Nat) + (1 : Nat) + (1 : Nat)) : Int)))]), ((26 : Nat), Ob.row Mode.u false (4 : Nat) (U.length + (1 : Nat)) (fun (a b : Nat) => if a < U.length then UB U a b else setG [((0 : Nat), (0 : Nat), PV.v (Value.int IntKind.i64 (pickV n f (p + (1 : Nat) + (4 : Nat) * U.length) (8 : Int)))), ((0 : Nat), (1 : Nat), PV.v (Value.bool (pickV n f (p + (1 : Nat) + (4 : Nat) * U.length + (1 : Nat)) (2 : Int) == (0 : Int)))), ((0 : Nat), (2 : Nat), PV.v (Value.int IntKind.i64 (pickV n f (p + (1 : Nat) + (4 : Nat) * U.length + (1 : Nat) + (1 : Nat)) (256 : Int)))), ((0 : Nat), (3 : Nat), PV.v (Value.int IntKind.i64 (pickV n f (p + (1 : Nat) + (4 : Nat) * U.length + (1 : Nat) + (1 : Nat) + (1 : Nat)) (4 : Int))))] (fun (x j : Nat) => PV.v ([Value.int IntKind.i64 (0 : Int), Value.bool false, Value.int IntKind.i64 (0 : Int), Value.int IntKind.i64 (0 : Int)].getD j undef)) (a - U.length) b) [])]))))))) (VC.call (106 : Nat) [AV.adr (0 : Nat) (0 : Nat), AV.p true (PV.v (Value.int IntKind.i64 m))] [((0 : Nat), Ob.box [AV.p false (PV.sl nn (1 : Nat) n (PB f)), AV.p true (PV.v (Value.int IntKind.i64 (↑(p + (1 : Nat) + (4 : Nat) * U.length) : Int)))])] (AB (oddV n f (p + (1 : Nat) + (4 : Nat) * U.length) m)) [((0 : Nat), RD nn n f (oddP (p + (1 : Nat) + (4 : Nat) * U.length) m))] (VC.split (oddV n f (p + (1 : Nat) + (4 : Nat) * U.length) m) (VC.stop [Item.ir ir132_C1, Item.ir ir132_D1] (St.mk [((0 : Nat), AV.adr (100000 : Nat) (0 : Nat)), ((1 : Nat), AV.p true (PV.v (Value.int IntKind.i64 m))), ((4 : Nat), AV.p true (PV.v (Value.slice none (0 : Nat) (0 : Nat)))), ((5 : Nat), AV.own (7 : Nat)), ((6 : Nat), AV.p true (PV.v (Value.int IntKind.i64 (K - (↑U.length : Int))))), ((11 : Nat), AV.p true (PV.v (Value.bool (decide ((0 : Int) < K - (↑U.length : Int)))))), ((29 : Nat), AV.p true (PV.v (Value.bool (oddV n f (p + (1 : Nat) + (4 : Nat) * U.length) m))))] [((100000 : Nat), Ob.box [AV.p false (PV.sl nn (1 : Nat) n (PB f)), AV.p true (PV.v (Value.int IntKind.i64 (↑(oddP (p + (1 : Nat) + (4 : Nat) * U.length) m) : Int)))]), ((7 : Nat), Ob.row Mode.u false (4 : Nat) U.length (UB U) [])])) (VC.done (St.mk [((0 : Nat), AV.adr (100000 : Nat) (0 : Nat)), ((1 : Nat), AV.p true (PV.v (Value.int IntKind.i64 m))), ((4 : Nat), AV.own (7 : Nat)), ((5 : Nat), AV.own (7 : Nat)), ((6 : Nat), AV.p true (PV.v (Value.int IntKind.i64 (K - (↑U.length : Int))))), ((11 : Nat), AV.p true (PV.v (Value.bool (decide ((0 : Int) < K - (↑U.length : Int)))))), ((29 : Nat), AV.p true (PV.v (Value.bool (oddV n f (p + (1 : Nat) + (4 : Nat) * U.length) m))))] [((100000 : Nat), Ob.box [AV.p false (PV.sl nn (1 : Nat) n (PB f)), AV.p true (PV.v (Value.int IntKind.i64 (↑(oddP (p + (1 : Nat) + (4 : Nat) * U.length) m) : Int)))]), ((7 : Nat), Ob.row Mode.u false (4 : Nat) U.length (UB U) [])])))) := by intros; kernel_rfl
def st_dUC (nn : Bool) (n : Nat) (f : Nat → Int) (q : Nat) (U : List Us) : St := ⟨[(0, .adr 100000 0), (4, nilA), (5, .own 7)], [(100000, RD nn n f q), (7, .row .u false 4 U.length (UB U) [])]⟩
theorem c_pk0 (nn : Bool) (n : Nat) (f : Nat → Int) (p : Nat) (hb : Bytes f) (hp : p ≤ 1000000000) (h : pickV n f p 4 = 0) : PObj Tryd.prog G0 87 [.adr 0 0, AI 4] [(0, RD nn n f p)] (AI 0) [(0, RD nn n f (p + 1))] := h ▸ c_pick nn n f p 4 hb hp
theorem c_pk1 (nn : Bool) (n : Nat) (f : Nat → Int) (p : Nat) (hb : Bytes f) (hp : p ≤ 1000000000) (h : pickV n f p 4 = 1) : PObj Tryd.prog G0 87 [.adr 0 0, AI 4] [(0, RD nn n f p)] (AI 1) [(0, RD nn n f (p + 1))] := h ▸ c_pick nn n f p 4 hb hp
theorem c_pk2 (nn : Bool) (n : Nat) (f : Nat → Int) (p : Nat) (hb : Bytes f) (hp : p ≤ 1000000000) (h : pickV n f p 4 = 2) : PObj Tryd.prog G0 87 [.adr 0 0, AI 4] [(0, RD nn n f p)] (AI 2) [(0, RD nn n f (p + 1))] := h ▸ c_pick nn n f p 4 hb hp
theorem c_pk3 (nn : Bool) (n : Nat) (f : Nat → Int) (p : Nat) (hb : Bytes f) (hp : p ≤ 1000000000) (h : pickV n f p 4 = 3) : PObj Tryd.prog G0 87 [.adr 0 0, AI 4] [(0, RD nn n f p)] (AI 3) [(0, RD nn n f (p + 1))] := h ▸ c_pick nn n f p 4 hb hp
def r_dUC (nn : Bool) (n : Nat) (f : Nat → Int) (p0 q : Nat) (U : List Us) := (G0, res132, [(0, RD nn n f p0)], [Item.ir ir132_C1, Item.ir ir132_D1], st_dUC nn n f q U)
theorem evr_dUC0 : ∀ (nn : Bool) (n : Nat) (f : Nat → Int) (p0 q : Nat) (U : List Us), ev G0 res132 [((0 : Nat), RD nn n f p0)] (3000 : Nat) (Or.call [(100000 : Nat)] (AI (0 : Int)) [((0 : Nat), RD nn n f (q + (1 : Nat)))] Or.nil) [Item.ir ir132_C1, Item.ir ir132_D1] (st_dUC nn n f q U) = VC.call (87 : Nat) [AV.adr (0 : Nat) (0 : Nat), AV.p true (PV.v (Value.int IntKind.i64 (4 : Int)))] [((0 : Nat), Ob.box [AV.p false (PV.sl nn (1 : Nat) n (PB f)), AV.p true (PV.v (Value.int IntKind.i64 (↑q : Int)))])] (AI (0 : Int)) [((0 : Nat), RD nn n f (q + (1 : Nat)))] (VC.need ((0 : Int) ≤ (0 : Int) ∧ Int.toNat (0 : Int) < (4 : Nat)) (VC.need ((0 : Nat) < (4 : Nat)) (VC.need (((U.length + (1 : Nat)) * (32 : Nat) ≤ (140737488355328 : Nat) ∧ (↑(U.length + (1 : Nat)) : Int) ≤ (9223372036854775807 : Int)) ∧ allV (4 : Nat) (1 : Nat) (setG [((0 : Nat), (0 : Nat), PV.v (Value.int IntKind.i64 (8 : Int))), ((0 : Nat), (1 : Nat), PV.v (Value.bool false)), ((0 : Nat), (2 : Nat), PV.v (Value.int IntKind.i64 (0 : Int))), ((0 : Nat), (3 : Nat), PV.v (Value.int IntKind.i64 (0 : Int)))] fun (x j : Nat) => PV.v ([Value.int IntKind.i64 (0 : Int), Value.bool false, Value.int IntKind.i64 (0 : Int), Value.int IntKind.i64 (0 : Int)].getD j undef))) (VC.done (St.mk [((0 : Nat), AV.adr (100000 : Nat) (0 : Nat)), ((4 : Nat), AV.own (41 : Nat)), ((5 : Nat), AV.own (41 : Nat))] [((100000 : Nat), Ob.box [AV.p false (PV.sl nn (1 : Nat) n (PB f)), AV.p true (PV.v (Value.int IntKind.i64 (↑(q + (1 : Nat)) : Int)))]), ((41 : Nat), Ob.row Mode.u false (4 : Nat) (U.length + (1 : Nat)) (fun (a b : Nat) => if a < U.length then UB U a b else setG [((0 : Nat), (0 : Nat), PV.v (Value.int IntKind.i64 (8 : Int))), ((0 : Nat), (1 : Nat), PV.v (Value.bool false)), ((0 : Nat), (2 : Nat), PV.v (Value.int IntKind.i64 (0 : Int))), ((0 : Nat), (3 : Nat), PV.v (Value.int IntKind.i64 (0 : Int)))] (fun (x j : Nat) => PV.v ([Value.int IntKind.i64 (0 : Int), Value.bool false, Value.int IntKind.i64 (0 : Int), Value.int IntKind.i64 (0 : Int)].getD j undef)) (a - U.length) b) [])]))))) := by intros; kernel_rfl
theorem evr_dUC1 : ∀ (nn : Bool) (n : Nat) (f : Nat → Int) (p0 q : Nat) (U : List Us), ev G0 res132 [((0 : Nat), RD nn n f p0)] (3000 : Nat) (Or.call [(100000 : Nat)] (AI (1 : Int)) [((0 : Nat), RD nn n f (q + (1 : Nat)))] Or.nil) [Item.ir ir132_C1, Item.ir ir132_D1] (st_dUC nn n f q U) = VC.call (87 : Nat) [AV.adr (0 : Nat) (0 : Nat), AV.p true (PV.v (Value.int IntKind.i64 (4 : Int)))] [((0 : Nat), Ob.box [AV.p false (PV.sl nn (1 : Nat) n (PB f)), AV.p true (PV.v (Value.int IntKind.i64 (↑q : Int)))])] (AI (1 : Int)) [((0 : Nat), RD nn n f (q + (1 : Nat)))] (VC.need ((0 : Int) ≤ (1 : Int) ∧ Int.toNat (1 : Int) < (4 : Nat)) (VC.need ((1 : Nat) < (4 : Nat)) (VC.need (((U.length + (1 : Nat)) * (32 : Nat) ≤ (140737488355328 : Nat) ∧ (↑(U.length + (1 : Nat)) : Int) ≤ (9223372036854775807 : Int)) ∧ allV (4 : Nat) (1 : Nat) (setG [((0 : Nat), (0 : Nat), PV.v (Value.int IntKind.i64 (-1 : Int))), ((0 : Nat), (1 : Nat), PV.v (Value.bool false)), ((0 : Nat), (2 : Nat), PV.v (Value.int IntKind.i64 (0 : Int))), ((0 : Nat), (3 : Nat), PV.v (Value.int IntKind.i64 (0 : Int)))] fun (x j : Nat) => PV.v ([Value.int IntKind.i64 (0 : Int), Value.bool false, Value.int IntKind.i64 (0 : Int), Value.int IntKind.i64 (0 : Int)].getD j undef))) (VC.done (St.mk [((0 : Nat), AV.adr (100000 : Nat) (0 : Nat)), ((4 : Nat), AV.own (41 : Nat)), ((5 : Nat), AV.own (41 : Nat))] [((100000 : Nat), Ob.box [AV.p false (PV.sl nn (1 : Nat) n (PB f)), AV.p true (PV.v (Value.int IntKind.i64 (↑(q + (1 : Nat)) : Int)))]), ((41 : Nat), Ob.row Mode.u false (4 : Nat) (U.length + (1 : Nat)) (fun (a b : Nat) => if a < U.length then UB U a b else setG [((0 : Nat), (0 : Nat), PV.v (Value.int IntKind.i64 (-1 : Int))), ((0 : Nat), (1 : Nat), PV.v (Value.bool false)), ((0 : Nat), (2 : Nat), PV.v (Value.int IntKind.i64 (0 : Int))), ((0 : Nat), (3 : Nat), PV.v (Value.int IntKind.i64 (0 : Int)))] (fun (x j : Nat) => PV.v ([Value.int IntKind.i64 (0 : Int), Value.bool false, Value.int IntKind.i64 (0 : Int), Value.int IntKind.i64 (0 : Int)].getD j undef)) (a - U.length) b) [])]))))) := by intros; kernel_rfl
theorem evr_dUC2 : ∀ (nn : Bool) (n : Nat) (f : Nat → Int) (p0 q : Nat) (U : List Us), ev G0 res132 [((0 : Nat), RD nn n f p0)] (3000 : Nat) (Or.call [(100000 : Nat)] (AI (2 : Int)) [((0 : Nat), RD nn n f (q + (1 : Nat)))] Or.nil) [Item.ir ir132_C1, Item.ir ir132_D1] (st_dUC nn n f q U) = VC.call (87 : Nat) [AV.adr (0 : Nat) (0 : Nat), AV.p true (PV.v (Value.int IntKind.i64 (4 : Int)))] [((0 : Nat), Ob.box [AV.p false (PV.sl nn (1 : Nat) n (PB f)), AV.p true (PV.v (Value.int IntKind.i64 (↑q : Int)))])] (AI (2 : Int)) [((0 : Nat), RD nn n f (q + (1 : Nat)))] (VC.need ((0 : Int) ≤ (2 : Int) ∧ Int.toNat (2 : Int) < (4 : Nat)) (VC.need ((2 : Nat) < (4 : Nat)) (VC.need (((U.length + (1 : Nat)) * (32 : Nat) ≤ (140737488355328 : Nat) ∧ (↑(U.length + (1 : Nat)) : Int) ≤ (9223372036854775807 : Int)) ∧ allV (4 : Nat) (1 : Nat) (setG [((0 : Nat), (0 : Nat), PV.v (Value.int IntKind.i64 (0 : Int))), ((0 : Nat), (1 : Nat), PV.v (Value.bool false)), ((0 : Nat), (2 : Nat), PV.v (Value.int IntKind.i64 (0 : Int))), ((0 : Nat), (3 : Nat), PV.v (Value.int IntKind.i64 (4 : Int)))] fun (x j : Nat) => PV.v ([Value.int IntKind.i64 (0 : Int), Value.bool false, Value.int IntKind.i64 (0 : Int), Value.int IntKind.i64 (0 : Int)].getD j undef))) (VC.done (St.mk [((0 : Nat), AV.adr (100000 : Nat) (0 : Nat)), ((4 : Nat), AV.own (41 : Nat)), ((5 : Nat), AV.own (41 : Nat))] [((100000 : Nat), Ob.box [AV.p false (PV.sl nn (1 : Nat) n (PB f)), AV.p true (PV.v (Value.int IntKind.i64 (↑(q + (1 : Nat)) : Int)))]), ((41 : Nat), Ob.row Mode.u false (4 : Nat) (U.length + (1 : Nat)) (fun (a b : Nat) => if a < U.length then UB U a b else setG [((0 : Nat), (0 : Nat), PV.v (Value.int IntKind.i64 (0 : Int))), ((0 : Nat), (1 : Nat), PV.v (Value.bool false)), ((0 : Nat), (2 : Nat), PV.v (Value.int IntKind.i64 (0 : Int))), ((0 : Nat), (3 : Nat), PV.v (Value.int IntKind.i64 (4 : Int)))] (fun (x j : Nat) => PV.v ([Value.int IntKind.i64 (0 : Int), Value.bool false, Value.int IntKind.i64 (0 : Int), Value.int IntKind.i64 (0 : Int)].getD j undef)) (a - U.length) b) [])]))))) := by intros; kernel_rfl
theorem evr_dUC3 : ∀ (nn : Bool) (n : Nat) (f : Nat → Int) (p0 q : Nat) (U : List Us), ev G0 res132 [((0 : Nat), RD nn n f p0)] (3000 : Nat) (Or.call [(100000 : Nat)] (AI (3 : Int)) [((0 : Nat), RD nn n f (q + (1 : Nat)))] Or.nil) [Item.ir ir132_C1, Item.ir ir132_D1] (st_dUC nn n f q U) = VC.call (87 : Nat) [AV.adr (0 : Nat) (0 : Nat), AV.p true (PV.v (Value.int IntKind.i64 (4 : Int)))] [((0 : Nat), Ob.box [AV.p false (PV.sl nn (1 : Nat) n (PB f)), AV.p true (PV.v (Value.int IntKind.i64 (↑q : Int)))])] (AI (3 : Int)) [((0 : Nat), RD nn n f (q + (1 : Nat)))] (VC.need ((0 : Int) ≤ (3 : Int) ∧ Int.toNat (3 : Int) < (4 : Nat)) (VC.need ((3 : Nat) < (4 : Nat)) (VC.need (((U.length + (1 : Nat)) * (32 : Nat) ≤ (140737488355328 : Nat) ∧ (↑(U.length + (1 : Nat)) : Int) ≤ (9223372036854775807 : Int)) ∧ allV (4 : Nat) (1 : Nat) (setG [((0 : Nat), (0 : Nat), PV.v (Value.int IntKind.i64 (0 : Int))), ((0 : Nat), (1 : Nat), PV.v (Value.bool false)), ((0 : Nat), (2 : Nat), PV.v (Value.int IntKind.i64 (100001 : Int))), ((0 : Nat), (3 : Nat), PV.v (Value.int IntKind.i64 (0 : Int)))] fun (x j : Nat) => PV.v ([Value.int IntKind.i64 (0 : Int), Value.bool false, Value.int IntKind.i64 (0 : Int), Value.int IntKind.i64 (0 : Int)].getD j undef))) (VC.done (St.mk [((0 : Nat), AV.adr (100000 : Nat) (0 : Nat)), ((4 : Nat), AV.own (41 : Nat)), ((5 : Nat), AV.own (41 : Nat))] [((100000 : Nat), Ob.box [AV.p false (PV.sl nn (1 : Nat) n (PB f)), AV.p true (PV.v (Value.int IntKind.i64 (↑(q + (1 : Nat)) : Int)))]), ((41 : Nat), Ob.row Mode.u false (4 : Nat) (U.length + (1 : Nat)) (fun (a b : Nat) => if a < U.length then UB U a b else setG [((0 : Nat), (0 : Nat), PV.v (Value.int IntKind.i64 (0 : Int))), ((0 : Nat), (1 : Nat), PV.v (Value.bool false)), ((0 : Nat), (2 : Nat), PV.v (Value.int IntKind.i64 (100001 : Int))), ((0 : Nat), (3 : Nat), PV.v (Value.int IntKind.i64 (0 : Int)))] (fun (x j : Nat) => PV.v ([Value.int IntKind.i64 (0 : Int), Value.bool false, Value.int IntKind.i64 (0 : Int), Value.int IntKind.i64 (0 : Int)].getD j undef)) (a - U.length) b) [])]))))) := by intros; kernel_rfl
theorem UB_app {U : List Us} {x : Us} {F : Nat → Nat → PV} (h : ∀ j, j < 4 → F 0 j = x.col j) {i j : Nat} (hi : i < U.length + 1) (hj : j < 4) : PV.Le (if i < U.length then UB U i j else F (i - U.length) j) (UB (U ++ [x]) i j) := by
  simp only [UB]
  rw [getD_app]
  split
  · exact .refl _
  · rename_i h2
    obtain rfl : i = U.length := by omega
    simp only [Nat.sub_self, List.getD_cons_zero]
    rw [h j hj]; exact .refl _
def usAt (n : Nat) (f : Nat → Int) (q : Nat) : Us := ⟨pickV n f q 8, pickV n f (q + 1) 2 == 0, pickV n f (q + 1 + 1) 256, pickV n f (q + 1 + 1 + 1) 4⟩
def usL (n : Nat) (f : Nat → Int) (p j : Nat) : List Us := (List.range j).map fun i => usAt n f (p + 1 + 4 * i)
theorem usL_succ (n : Nat) (f : Nat → Int) (p j : Nat) : usL n f p (j + 1) = usL n f p j ++ [usAt n f (p + 1 + 4 * j)] := by simp [usL, List.range_succ]
theorem usL_len (n : Nat) (f : Nat → Int) (p j : Nat) : (usL n f p j).length = j := by simp [usL]
def litU (c : Int) : Us := if c = 0 then ⟨8, false, 0, 0⟩ else if c = 1 then ⟨-1, false, 0, 0⟩ else if c = 2 then ⟨0, false, 0, 4⟩ else ⟨0, false, 100001, 0⟩
def dUk (n : Nat) (f : Nat → Int) (p : Nat) : Nat := (pickV n f p 12).toNat
def dUq (n : Nat) (f : Nat → Int) (p : Nat) : Nat := p + 1 + 4 * dUk n f p
def dUs (n : Nat) (f : Nat → Int) (p : Nat) (m : Int) : List Us := if oddV n f (dUq n f p) m then usL n f p (dUk n f p) ++ [litU (pickV n f (oddP (dUq n f p) m) 4)] else usL n f p (dUk n f p)
def dUp (n : Nat) (f : Nat → Int) (p : Nat) (m : Int) : Nat := if oddV n f (dUq n f p) m then oddP (dUq n f p) m + 1 else oddP (dUq n f p) m
theorem dU_ok {n : Nat} {f : Nat → Int} {p : Nat} {m : Int} (hb : Bytes f) (hp : p ≤ 100000000) : UsD p m (dUs n f p m, dUp n f p m) := by
  have rK := pick_rng (n := n) (p := p) (m := 12) hb (by omega) (by omega)
  have hk : dUk n f p ≤ 11 := by unfold dUk; omega
  have hq : dUq n f p = p + 1 + 4 * dUk n f p := rfl
  have o1 := oddP_ge' (dUq n f p) m
  have o2 := oddP_le (dUq n f p) m
  have hL := usL_len n f p (dUk n f p)
  refine ⟨?_, ?_, fun h => ?_⟩
  · simp only [dUs]
    split
    · simp only [List.length_append, List.length_singleton, hL]; omega
    · omega
  · simp only [dUp]
    split <;> omega
  · have hn := odd_no (n := n) (f := f) (p := dUq n f p) h
    simp only [dUs, hn]
    refine ⟨by simp only [Bool.false_eq_true, if_false, hL]; omega, fun u hu => ?_⟩
    simp only [Bool.false_eq_true, if_false, usL, List.mem_map, List.mem_range] at hu
    obtain ⟨i, hi, rfl⟩ := hu
    have r1 := pick_rng (n := n) (p := p + 1 + 4 * i) (m := 8) hb (by omega) (by omega)
    have r2 := pick_rng (n := n) (p := p + 1 + 4 * i + 1 + 1) (m := 256) hb (by omega) (by omega)
    have r3 := pick_rng (n := n) (p := p + 1 + 4 * i + 1 + 1 + 1) (m := 4) hb (by omega) (by omega)
    simp only [usOk, usAt, valB, Bool.and_eq_true, inB_iff]
    omega
theorem us_done {nn : Bool} {n : Nat} {f : Nat → Int} {p : Nat} {m : Int} {s : St} {q N : Nat} {b : Bool} {F : Nat → Nat → PV} (y : List Us × Nat) (hy : y = (dUs n f p m, dUp n f p m)) (hq : q < 100000) (h0 : s.get 4 = .own q) (h2 : look s.H 100000 = some (RD nn n f y.2)) (h3 : look s.H q = some (.row .u b 4 N F [])) (hN : N = y.1.length) (h4 : ∀ i j, i < N → j < 4 → PV.Le (F i j) (UB y.1 i j)) :
    ResOk res132 [(0, RD nn n f p)] s (fun x h => x = .own 1 ∧ h = usD nn n f (dUs n f p m, dUp n f p m)) := by
  subst hN
  rw [← hy]
  refine ResOk.mk [] [(0, 100000), (1, q)] [] (.own 1) (usD nn n f y) ?_ ⟨rfl, rfl⟩
  have e : s.lowers [] = s := rfl
  have e2 : ∀ i, s.obj i = look s.H i := fun _ => rfl
  have k1 : ((100000 : Nat) == q) = false := by simp; omega
  clear hy
  obtain ⟨U, r⟩ := y
  simp only [] at h4 h2 h3
  simp only [usD]
  generalize UB U = G at *
  simp [doneC, resOf, resAV, tup, pinR, hbs, e, e2, h0, h2, h3, leObs, obLe, injB, AV.leC, AV.leCs, PV.leC, PV.Le_v, look, rho, isNew, keptC, renH, Mode.ok, Mode.isZ, PV.isVal, PV.isNilSl, res132, k1]
  first
    | exact h4
    | exact ⟨h4, by omega⟩
    | exact ⟨by omega, h4⟩
theorem c_dUD (nn : Bool) (n : Nat) (f : Nat → Int) (p : Nat) (m : Int) (hb : Bytes f) (hp : p ≤ 100000000) : PObj Tryd.prog G0 132 [.adr 0 0, AI m] [(0, RD nn n f p)] (.own 1) [(0, RD nn n f (dUp n f p m)), (1, .row .u false 4 (dUs n f p m).length (UB (dUs n f p m)) [])] := by
  refine PObj.by chk132 rfl (ev_dU nn n f p m) ?_
  simp only [VC.holds_split, VC.holds_need, VC.holds_doneP, VC.holds_done, VC.holds_either, VC.holds_call, VC.holds_callE, VC.holds_lend, VC.holds_stop, VC.holds_fail, decide_eq_true_eq, decide_eq_false_iff_not]
  have hK := pick_rng (n := n) (p := p) (m := 12) hb (by omega) (by omega)
  have hk : ((dUk n f p : Nat) : Int) = pickV n f p 12 := by unfold dUk; omega
  refine ⟨c_pick _ _ _ _ _ hb (by omega), ?_⟩
  rw [← hk]
  have hk11 : dUk n f p ≤ 11 := by omega
  refine loop_by (st_dU nn n f p m (dUk n f p : Nat)) (fun U => U.length ≤ dUk n f p ∧ U = usL n f p U.length) (fun U => 12 - U.length) [] [] [] [] ⟨by simp, by simp [usL]⟩ ?_ (evr_dU nn n f p p m (dUk n f p : Nat)) fun U hU => ?_
  · simp [st_dU, hbs, St.lowers, St.lower, stLe, leEnv, leObs, obLe, injB, pinC, AV.leC, AV.leCs, PV.leC, PV.Le_v, St.get, St.obj, look, rho, isNew, keptC, renH, Mode.ok, Mode.isZ, PV.isVal, PV.isNilSl, List.all_nil, List.all_cons, List.any_nil, List.any_cons, List.map_nil, List.map_cons, PV.Le_self]
  · obtain ⟨h1, h2⟩ := hU
    have w : IntKind.i64.wrap ((dUk n f p : Int) - (U.length : Int) - 1) = (dUk n f p : Int) - ((U.length + 1 : Nat) : Int) := (wrap_in (by omega) (by omega)).trans (by omega)
    simp only [VC.holds_split, VC.holds_need, VC.holds_doneP, VC.holds_done, VC.holds_either, VC.holds_call, VC.holds_callE, VC.holds_lend, VC.holds_stop, VC.holds_fail, decide_eq_true_eq, decide_eq_false_iff_not]
    refine ⟨fun h3 => ⟨c_pick _ _ _ _ _ hb (by omega), c_pick _ _ _ _ _ hb (by omega), c_pick _ _ _ _ _ hb (by omega), c_pick _ _ _ _ _ hb (by omega), ⟨⟨by omega, by omega⟩, ?_⟩, Again.mk (U ++ [usAt n f (p + 1 + 4 * U.length)]) [] [(7, 26)] [] ⟨?_, ?_⟩ ?_ ?_⟩, fun h3 => ⟨c_odd _ _ _ _ _ hb (by omega), fun h4 => ?_, fun h4 => ?_⟩⟩
    · intro i j hi hj
      obtain rfl : i = 0 := by omega
      match j, hj with
      | 0, _ => rfl
      | 1, _ => rfl
      | 2, _ => rfl
      | 3, _ => rfl
    · simp only [List.length_append, List.length_singleton]; omega
    · simp only [List.length_append, List.length_singleton]
      rw [usL_succ, ← h2]
    · simp only [List.length_append, List.length_singleton]; omega
    · have key := fun i j hi hj => UB_app (U := U) (x := usAt n f (p + 1 + 4 * U.length)) (F := setG [(0, 0, .v (.int .i64 (pickV n f (p + 1 + 4 * U.length) 8))), (0, 1, .v (.bool (pickV n f (p + 1 + 4 * U.length + 1) 2 == 0))), (0, 2, .v (.int .i64 (pickV n f (p + 1 + 4 * U.length + 1 + 1) 256))), (0, 3, .v (.int .i64 (pickV n f (p + 1 + 4 * U.length + 1 + 1 + 1) 4)))] fun _ j => .v ([Value.int IntKind.i64 0, Value.bool false, Value.int IntKind.i64 0, Value.int IntKind.i64 0].getD j undef)) (fun j hj => by
        match j, hj with
        | 0, _ => rfl
        | 1, _ => rfl
        | 2, _ => rfl
        | 3, _ => rfl) (i := i) (j := j) hi hj
      have e1 : (U ++ [usAt n f (p + 1 + 4 * U.length)]).length = U.length + 1 := by simp
      simp only [st_dU, e1, w]
      generalize UB (U ++ [usAt n f (p + 1 + 4 * U.length)]) = G at *
      generalize UB U = G' at *
      simp [hbs, St.lowers, St.lower, stLe, leEnv, leObs, obLe, injB, pinC, AV.leC, AV.leCs, PV.leC, PV.Le_v, St.get, St.obj, look, rho, isNew, keptC, renH, Mode.ok, Mode.isZ, PV.isVal, PV.isNilSl, List.all_nil, List.all_cons, List.any_nil, List.any_cons, List.map_nil, List.map_cons, PV.Le_self]
      refine ⟨by omega, ?_⟩
      exact key
    · have hUk : U.length = dUk n f p := by omega
      have hq : p + 1 + 4 * U.length = dUq n f p := by rw [hUk]; rfl
      rw [hq] at h4 ⊢
      have hL : U = usL n f p (dUk n f p) := by rw [← hUk]; exact h2
      have o2 := oddP_le (dUq n f p) m
      have r4 := pick_rng (n := n) (p := oddP (dUq n f p) m) (m := 4) hb (by omega) (by omega)
      have hd : (U ++ [litU (pickV n f (oddP (dUq n f p) m) 4)], oddP (dUq n f p) m + 1) = (dUs n f p m, dUp n f p m) := by
        simp only [dUs, dUp, h4, if_true, ← hL]
      generalize oddP (dUq n f p) m = q at *
      have fin : ∀ (F : Nat → Nat → PV) (s : St), (∀ j, j < 4 → F 0 j = (litU (pickV n f q 4)).col j) → s.get 4 = .own 41 → look s.H 100000 = some (RD nn n f (q + 1)) → look s.H 41 = some (.row .u false 4 (U.length + 1) (fun a b => if a < U.length then UB U a b else F (a - U.length) b) []) → ResOk res132 [(0, RD nn n f p)] s (fun x h => x = .own 1 ∧ h = usD nn n f (dUs n f p m, dUp n f p m)) := fun F s hF g1 g2 g3 =>
        us_done (U ++ [litU (pickV n f q 4)], q + 1) hd (q := 41) (by decide) g1 g2 g3 (by simp) (fun i j hi hj => UB_app hF hi hj)
      have four : ∀ {F : Nat → Nat → PV} {x : Us}, (F 0 0 = x.col 0 ∧ F 0 1 = x.col 1 ∧ F 0 2 = x.col 2 ∧ F 0 3 = x.col 3) → ∀ j, j < 4 → F 0 j = x.col j := fun h j hj =>
        match j, hj with
        | 0, _ => h.1
        | 1, _ => h.2.1
        | 2, _ => h.2.2.1
        | 3, _ => h.2.2.2
      have hc : pickV n f q 4 = 0 ∨ pickV n f q 4 = 1 ∨ pickV n f q 4 = 2 ∨ pickV n f q 4 = 3 := by omega
      have hv : ∀ {F : Nat → Nat → PV}, ((F 0 0).isV = true ∧ (F 0 1).isV = true ∧ (F 0 2).isV = true ∧ (F 0 3).isV = true) → allV 4 1 F := fun h i j hi hj => by
        obtain rfl : i = 0 := by omega
        exact match j, hj with
        | 0, _ => h.1
        | 1, _ => h.2.1
        | 2, _ => h.2.2.1
        | 3, _ => h.2.2.2
      rcases hc with hc | hc | hc | hc
      · refine Go.Gw.M.by [] [] [] ?_ (evr_dUC0 nn n f p q U) ?_
        · simp [st_dUC, hbs, St.lowers, St.lower, stLe, leEnv, leObs, obLe, injB, pinC, AV.leC, AV.leCs, PV.leC, PV.Le_v, St.get, St.obj, look, rho, isNew, keptC, renH, Mode.ok, Mode.isZ, PV.isVal, PV.isNilSl, List.all_nil, List.all_cons, List.any_nil, List.any_cons, List.map_nil, List.map_cons, PV.Le_self]
        · simp only [VC.holds_split, VC.holds_need, VC.holds_doneP, VC.holds_done, VC.holds_either, VC.holds_call, VC.holds_callE, VC.holds_lend, VC.holds_stop, VC.holds_fail, decide_eq_true_eq, decide_eq_false_iff_not]
          rw [hc] at fin
          exact ⟨c_pk0 _ _ _ _ hb (by omega) hc, by decide, by decide, ⟨⟨by omega, by omega⟩, hv ⟨rfl, rfl, rfl, rfl⟩⟩, fin _ _ (four ⟨rfl, rfl, rfl, rfl⟩) rfl rfl rfl⟩
      · refine Go.Gw.M.by [] [] [] ?_ (evr_dUC1 nn n f p q U) ?_
        · simp [st_dUC, hbs, St.lowers, St.lower, stLe, leEnv, leObs, obLe, injB, pinC, AV.leC, AV.leCs, PV.leC, PV.Le_v, St.get, St.obj, look, rho, isNew, keptC, renH, Mode.ok, Mode.isZ, PV.isVal, PV.isNilSl, List.all_nil, List.all_cons, List.any_nil, List.any_cons, List.map_nil, List.map_cons, PV.Le_self]
        · simp only [VC.holds_split, VC.holds_need, VC.holds_doneP, VC.holds_done, VC.holds_either, VC.holds_call, VC.holds_callE, VC.holds_lend, VC.holds_stop, VC.holds_fail, decide_eq_true_eq, decide_eq_false_iff_not]
          rw [hc] at fin
          exact ⟨c_pk1 _ _ _ _ hb (by omega) hc, by decide, by decide, ⟨⟨by omega, by omega⟩, hv ⟨rfl, rfl, rfl, rfl⟩⟩, fin _ _ (four ⟨rfl, rfl, rfl, rfl⟩) rfl rfl rfl⟩
      · refine Go.Gw.M.by [] [] [] ?_ (evr_dUC2 nn n f p q U) ?_
        · simp [st_dUC, hbs, St.lowers, St.lower, stLe, leEnv, leObs, obLe, injB, pinC, AV.leC, AV.leCs, PV.leC, PV.Le_v, St.get, St.obj, look, rho, isNew, keptC, renH, Mode.ok, Mode.isZ, PV.isVal, PV.isNilSl, List.all_nil, List.all_cons, List.any_nil, List.any_cons, List.map_nil, List.map_cons, PV.Le_self]
        · simp only [VC.holds_split, VC.holds_need, VC.holds_doneP, VC.holds_done, VC.holds_either, VC.holds_call, VC.holds_callE, VC.holds_lend, VC.holds_stop, VC.holds_fail, decide_eq_true_eq, decide_eq_false_iff_not]
          rw [hc] at fin
          exact ⟨c_pk2 _ _ _ _ hb (by omega) hc, by decide, by decide, ⟨⟨by omega, by omega⟩, hv ⟨rfl, rfl, rfl, rfl⟩⟩, fin _ _ (four ⟨rfl, rfl, rfl, rfl⟩) rfl rfl rfl⟩
      · refine Go.Gw.M.by [] [] [] ?_ (evr_dUC3 nn n f p q U) ?_
        · simp [st_dUC, hbs, St.lowers, St.lower, stLe, leEnv, leObs, obLe, injB, pinC, AV.leC, AV.leCs, PV.leC, PV.Le_v, St.get, St.obj, look, rho, isNew, keptC, renH, Mode.ok, Mode.isZ, PV.isVal, PV.isNilSl, List.all_nil, List.all_cons, List.any_nil, List.any_cons, List.map_nil, List.map_cons, PV.Le_self]
        · simp only [VC.holds_split, VC.holds_need, VC.holds_doneP, VC.holds_done, VC.holds_either, VC.holds_call, VC.holds_callE, VC.holds_lend, VC.holds_stop, VC.holds_fail, decide_eq_true_eq, decide_eq_false_iff_not]
          rw [hc] at fin
          exact ⟨c_pk3 _ _ _ _ hb (by omega) hc, by decide, by decide, ⟨⟨by omega, by omega⟩, hv ⟨rfl, rfl, rfl, rfl⟩⟩, fin _ _ (four ⟨rfl, rfl, rfl, rfl⟩) rfl rfl rfl⟩
    · have hUk : U.length = dUk n f p := by omega
      have hq : p + 1 + 4 * U.length = dUq n f p := by rw [hUk]; rfl
      rw [hq] at h4 ⊢
      have hL : U = usL n f p (dUk n f p) := by rw [← hUk]; exact h2
      have hd : (U, oddP (dUq n f p) m) = (dUs n f p m, dUp n f p m) := by
        simp only [dUs, dUp, h4, Bool.false_eq_true, if_false, ← hL]
      exact us_done (U, oddP (dUq n f p) m) hd (q := 7) (by decide) rfl rfl rfl rfl (fun i j hi hj => .refl _)
theorem c_dU (nn : Bool) (n : Nat) (f : Nat → Int) (p : Nat) (m : Int) (hb : Bytes f) (hp : p ≤ 100000000) : PSome Tryd.prog G0 132 [.adr 0 0, AI m] [(0, RD nn n f p)] (List Us × Nat) (UsD p m) (fun _ => .own 1) (usD nn n f) :=
  (c_dUD nn n f p m hb hp).some' _ (dU_ok hb hp) rfl rfl
/-! ### the memory that values and leaves make -/
def blks (v l : Nat → Int) (k : Nat) : List Blk := (List.range k).map fun (i : Nat) => ⟨((i : Nat) : Int), v i, l i⟩
def in_mo (v l : Nat → Int) := (G0, res164, ([] : List (Nat × Ob)), [Item.ir ir164], start [IL true 8 v, IL true 8 l] [])
theorem ev_mo : ∀ (v l : Nat → Int), ev G0 res164 [] (3000 : Nat) Or.nil [Item.ir ir164] (start [IL true (8 : Nat) v, IL true (8 : Nat) l] []) = VC.loop ir164_L1 [Item.bend (0 : Nat), Item.ir ir164_T4] (St.mk [((0 : Nat), AV.p false (PV.sl true (1 : Nat) (8 : Nat) fun (i x : Nat) => PI (v i))), ((1 : Nat), AV.p false (PV.sl true (1 : Nat) (8 : Nat) fun (i x : Nat) => PI (l i))), ((4 : Nat), AV.adr (4 : Nat) (0 : Nat)), ((5 : Nat), AV.adr (5 : Nat) (0 : Nat)), ((6 : Nat), AV.p true (PV.v (Value.int IntKind.i64 (0 : Int))))] [((4 : Nat), Ob.box [AV.p true (PV.v (Value.slice none (0 : Nat) (0 : Nat))), AV.p true (PV.v (Value.slice none (0 : Nat) (0 : Nat)))]), ((5 : Nat), Ob.box [AV.p true (PV.v (Value.slice none (0 : Nat) (0 : Nat))), AV.p true (PV.v (Value.slice none (0 : Nat) (0 : Nat)))])]) := by intros; kernel_rfl
def st_mo (v l : Nat → Int) (k : Nat) : St := ⟨[(0, IL true 8 v), (1, IL true 8 l), (4, .adr 4 0), (5, .adr 5 0), (6, AI k)], [(4, nilB2), (5, .box [.own 7, nilA]), (7, .row .u false 1 k (BB []) [])]⟩
def r_mo (v l : Nat → Int) (I : Nat → St → Prop) (k : Nat) := (G0, res164, ([] : List (Nat × Ob)), [Item.ir ir164_L1, .lend (I k), Item.bend 0, Item.ir ir164_T4], st_mo v l k)
theorem evr_mo : ∀ (v l : Nat → Int) (I : Nat → St → Prop) (k : Nat), ev G0 res164 [] (3000 : Nat) (Or.nil.split Or.nil) [Item.ir ir164_L1, Item.lend (I k), Item.bend (0 : Nat), Item.ir ir164_T4] (st_mo v l k) = VC.split (decide ((↑k : Int) < (7 : Int))) (VC.need (((k + (1 : Nat)) * (24 : Nat) ≤ (140737488355328 : Nat) ∧ (↑(k + (1 : Nat)) : Int) ≤ (9223372036854775807 : Int)) ∧ allOne (1 : Nat) (1 : Nat) (setG [((0 : Nat), (0 : Nat), PV.sl true (3 : Nat) (0 : Nat) (setG [] fun (x j : Nat) => PV.v ([Value.int IntKind.i64 (0 : Int), Value.int IntKind.i64 (0 : Int), Value.int IntKind.i64 (0 : Int)].getD j undef)))] fun (x j : Nat) => PV.v ([Value.slice none (0 : Nat) (0 : Nat)].getD j undef))) (VC.lend (I k) (St.mk [((0 : Nat), AV.p false (PV.sl true (1 : Nat) (8 : Nat) fun (i x : Nat) => PI (v i))), ((1 : Nat), AV.p false (PV.sl true (1 : Nat) (8 : Nat) fun (i x : Nat) => PI (l i))), ((4 : Nat), AV.adr (4 : Nat) (0 : Nat)), ((5 : Nat), AV.adr (5 : Nat) (0 : Nat)), ((6 : Nat), AV.p true (PV.v (Value.int IntKind.i64 (IntKind.i64.wrap ((↑k : Int) + (1 : Int)))))), ((10 : Nat), AV.p true (PV.v (Value.bool (decide ((↑k : Int) < (7 : Int))))))] [((4 : Nat), Ob.box [AV.p true (PV.v (Value.slice none (0 : Nat) (0 : Nat))), AV.p true (PV.v (Value.slice none (0 : Nat) (0 : Nat)))]), ((5 : Nat), Ob.box [AV.own (17 : Nat), AV.p true (PV.v (Value.slice none (0 : Nat) (0 : Nat)))]), ((17 : Nat), Ob.row Mode.u false (1 : Nat) (k + (1 : Nat)) (fun (a b : Nat) => if a < k then BB [] a b else setG [((0 : Nat), (0 : Nat), PV.sl true (3 : Nat) (0 : Nat) (setG [] fun (x j : Nat) => PV.v ([Value.int IntKind.i64 (0 : Int), Value.int IntKind.i64 (0 : Int), Value.int IntKind.i64 (0 : Int)].getD j undef)))] (fun (x j : Nat) => PV.v ([Value.slice none (0 : Nat) (0 : Nat)].getD j undef)) (a - k) b) [])]))) (VC.loop ir164_L2 [Item.bend (2 : Nat), Item.ir ir164_T3] (St.mk [((0 : Nat), AV.p false (PV.sl true (1 : Nat) (8 : Nat) fun (i x : Nat) => PI (v i))), ((1 : Nat), AV.p false (PV.sl true (1 : Nat) (8 : Nat) fun (i x : Nat) => PI (l i))), ((4 : Nat), AV.adr (4 : Nat) (0 : Nat)), ((5 : Nat), AV.adr (5 : Nat) (0 : Nat)), ((6 : Nat), AV.p true (PV.v (Value.int IntKind.i64 (↑k : Int)))), ((10 : Nat), AV.p true (PV.v (Value.bool (decide ((↑k : Int) < (7 : Int)))))), ((7 : Nat), AV.p true (PV.v (Value.int IntKind.i64 (0 : Int))))] [((4 : Nat), Ob.box [AV.p true (PV.v (Value.slice none (0 : Nat) (0 : Nat))), AV.p true (PV.v (Value.slice none (0 : Nat) (0 : Nat)))]), ((5 : Nat), Ob.box [AV.own (7 : Nat), AV.p true (PV.v (Value.slice none (0 : Nat) (0 : Nat)))]), ((7 : Nat), Ob.row Mode.u false (1 : Nat) k (BB []) [])])) := by intros; kernel_rfl
def st_mo2 (v l : Nat → Int) (k : Nat) : St := ⟨[(0, IL true 8 v), (1, IL true 8 l), (4, .adr 4 0), (5, .adr 5 0), (7, AI k)], [(4, nilB2), (5, .box [.own 7, .own 8]), (7, .row .u false 1 7 (BB (List.replicate 7 [])) []), (8, .row .u false 3 (blks v l k).length (SB (blks v l k)) [])]⟩
def r_mo2 (v l : Nat → Int) (I : Nat → St → Prop) (k : Nat) := (G0, res164, ([] : List (Nat × Ob)), [Item.ir ir164_L2, .lend (I k), Item.bend 2, Item.ir ir164_T3], st_mo2 v l k)
theorem c_smM7 (S : List Blk) (hS : S.length ≤ 1000) : PRet Tryd.prog G0 63 [.ag [.p false (.sl false 1 7 (BB (List.replicate 7 []))), BS false S]] (AB (memB (List.replicate 7 []) S)) := c_smM (List.replicate 7 []) S (by decide) (by simpa using Nat.le_trans hS (by decide))
theorem evr_mo2 : ∀ (v l : Nat → Int) (I : Nat → St → Prop) (k : Nat), ev G0 res164 [] (3000 : Nat) ((Or.nil.split Or.no).lit.lit.lit.lit.split (Or.call [] (AB (memB (List.replicate (7 : Nat) []) (blks v l k))) [] (Or.nil.split Or.nil).lit.lit).lit.lit.lit.lit.lit.lit.lit.lit.lit.lit.lit) [Item.ir ir164_L2, Item.lend (I k), Item.bend (2 : Nat), Item.ir ir164_T3] (st_mo2 v l k) = VC.split (decide ((↑k : Int) < (↑(8 : Nat) : Int))) (VC.split (decide ((↑k : Int) < (↑(8 : Nat) : Int))) (VC.need ((0 : Int) ≤ (↑k : Int) ∧ (↑k : Int).toNat < (8 : Nat)) (VC.need ((0 : Int) ≤ (↑k : Int) ∧ (↑k : Int).toNat < (8 : Nat)) (VC.need ((((blks v l k).length + (1 : Nat)) * (24 : Nat) ≤ (140737488355328 : Nat) ∧ (↑((blks v l k).length + (1 : Nat)) : Int) ≤ (9223372036854775807 : Int)) ∧ allV (3 : Nat) (1 : Nat) (setG [((0 : Nat), (0 : Nat), PV.v (Value.int IntKind.i64 (↑k : Int))), ((0 : Nat), (1 : Nat), PV.v (Value.int IntKind.i64 (v (↑k : Int).toNat))), ((0 : Nat), (2 : Nat), PV.v (Value.int IntKind.i64 (l (↑k : Int).toNat)))] fun (x j : Nat) => PV.v ([Value.int IntKind.i64 (0 : Int), Value.int IntKind.i64 (0 : Int), Value.int IntKind.i64 (0 : Int)].getD j undef))) (VC.lend (I k) (St.mk [((0 : Nat), AV.p false (PV.sl true (1 : Nat) (8 : Nat) fun (i x : Nat) => PI (v i))), ((1 : Nat), AV.p false (PV.sl true (1 : Nat) (8 : Nat) fun (i x : Nat) => PI (l i))), ((4 : Nat), AV.adr (4 : Nat) (0 : Nat)), ((5 : Nat), AV.adr (5 : Nat) (0 : Nat)), ((7 : Nat), AV.p true (PV.v (Value.int IntKind.i64 (IntKind.i64.wrap ((↑k : Int) + (1 : Int)))))), ((28 : Nat), AV.p true (PV.v (Value.bool (decide ((↑k : Int) < (↑(8 : Nat) : Int))))))] [((4 : Nat), Ob.box [AV.p true (PV.v (Value.slice none (0 : Nat) (0 : Nat))), AV.p true (PV.v (Value.slice none (0 : Nat) (0 : Nat)))]), ((5 : Nat), Ob.box [AV.own (7 : Nat), AV.own (44 : Nat)]), ((7 : Nat), Ob.row Mode.u false (1 : Nat) (7 : Nat) (BB (List.replicate (7 : Nat) [])) []), ((44 : Nat), Ob.row Mode.u false (3 : Nat) ((blks v l k).length + (1 : Nat)) (fun (a b : Nat) => if a < (blks v l k).length then SB (blks v l k) a b else setG [((0 : Nat), (0 : Nat), PV.v (Value.int IntKind.i64 (↑k : Int))), ((0 : Nat), (1 : Nat), PV.v (Value.int IntKind.i64 (v (↑k : Int).toNat))), ((0 : Nat), (2 : Nat), PV.v (Value.int IntKind.i64 (l (↑k : Int).toNat)))] (fun (x j : Nat) => PV.v ([Value.int IntKind.i64 (0 : Int), Value.int IntKind.i64 (0 : Int), Value.int IntKind.i64 (0 : Int)].getD j undef)) (a - (blks v l k).length) b) [])]))))) VC.fail) (VC.call (63 : Nat) [AV.ag [AV.p false (PV.sl false (1 : Nat) (7 : Nat) (BB (List.replicate (7 : Nat) []))), AV.p false (PV.sl false (3 : Nat) (blks v l k).length (SB (blks v l k)))]] [] (AB (memB (List.replicate (7 : Nat) []) (blks v l k))) [] (VC.split (!memB (List.replicate (7 : Nat) []) (blks v l k)) (VC.done (St.mk [((0 : Nat), AV.p false (PV.sl true (1 : Nat) (8 : Nat) fun (i x : Nat) => PI (v i))), ((1 : Nat), AV.p false (PV.sl true (1 : Nat) (8 : Nat) fun (i x : Nat) => PI (l i))), ((4 : Nat), AV.adr (4 : Nat) (0 : Nat)), ((5 : Nat), AV.adr (5 : Nat) (0 : Nat)), ((7 : Nat), AV.p true (PV.v (Value.int IntKind.i64 (↑k : Int)))), ((28 : Nat), AV.p true (PV.v (Value.bool false))), ((58 : Nat), AV.p true (PV.v (Value.bool !memB (List.replicate (7 : Nat) []) (blks v l k))))] [((4 : Nat), Ob.box [AV.p true (PV.v (Value.slice none (0 : Nat) (0 : Nat))), AV.p true (PV.v (Value.slice none (0 : Nat) (0 : Nat)))]), ((5 : Nat), Ob.box [AV.own (7 : Nat), AV.own (8 : Nat)]), ((7 : Nat), Ob.row Mode.u false (1 : Nat) (7 : Nat) (BB (List.replicate (7 : Nat) [])) []), ((8 : Nat), Ob.row Mode.u false (3 : Nat) (blks v l k).length (SB (blks v l k)) [])])) (VC.done (St.mk [((0 : Nat), AV.p false (PV.sl true (1 : Nat) (8 : Nat) fun (i x : Nat) => PI (v i))), ((1 : Nat), AV.p false (PV.sl true (1 : Nat) (8 : Nat) fun (i x : Nat) => PI (l i))), ((4 : Nat), AV.adr (4 : Nat) (0 : Nat)), ((5 : Nat), AV.adr (5 : Nat) (0 : Nat)), ((7 : Nat), AV.p true (PV.v (Value.int IntKind.i64 (↑k : Int)))), ((28 : Nat), AV.p true (PV.v (Value.bool false))), ((58 : Nat), AV.p true (PV.v (Value.bool !memB (List.replicate (7 : Nat) []) (blks v l k))))] [((4 : Nat), Ob.box [AV.own (7 : Nat), AV.own (8 : Nat)]), ((5 : Nat), Ob.box [AV.own (7 : Nat), AV.own (8 : Nat)]), ((7 : Nat), Ob.row Mode.u false (1 : Nat) (7 : Nat) (BB (List.replicate (7 : Nat) [])) []), ((8 : Nat), Ob.row Mode.u false (3 : Nat) (blks v l k).length (SB (blks v l k)) [])])))) := by intros; kernel_rfl
theorem blks_len (v l : Nat → Int) (k : Nat) : (blks v l k).length = k := by simp [blks]
theorem blks_mem {v l : Nat → Int} {k : Nat} {b : Blk} (h : b ∈ blks v l k) : ∃ i : Nat, i < k ∧ b = ⟨(i : Int), v i, l i⟩ := by
  simp only [blks, List.mem_map, List.mem_range] at h
  obtain ⟨i, h1, h2⟩ := h
  exact ⟨i, h1, h2.symm⟩
theorem blks_succ (v l : Nat → Int) (k : Nat) : blks v l (k + 1) = blks v l k ++ [⟨(k : Int), v k, l k⟩] := by simp [blks, List.range_succ]
theorem SB_app1 {S : List Blk} {x : Blk} {F : Nat → Nat → PV} (h : ∀ j, j < 3 → F 0 j = PI (x.col j)) {i j : Nat} (hi : i < S.length + 1) (hj : j < 3) : PV.Le (if i < S.length then SB S i j else F (i - S.length) j) (SB (S ++ [x]) i j) := by
  simp only [SB]
  rw [getD_app]
  split
  · exact .refl _
  · rename_i h2
    obtain rfl : i = S.length := by omega
    simp only [Nat.sub_self, List.getD_cons_zero]
    rw [h j hj]; exact .refl _
theorem rep7 (i : Nat) : (List.replicate 7 ([] : List Blk)).getD i [] = [] := by
  rw [List.getD_eq_getElem?_getD, List.getElem?_replicate]
  split <;> rfl
theorem BB7 : BB (List.replicate 7 []) = BB [] := by
  funext i c
  simp only [BB, rep7, List.getD_nil]
theorem memB_blks {v l : Nat → Int} (hv : ∀ i, i < 8 → valB (v i) = true) (hl : ∀ i, i < 8 → 0 ≤ l i ∧ l i ≤ 3) : memB (List.replicate 7 []) (blks v l 8) = true := by
  have e : (List.replicate 7 ([] : List Blk)).flatten = [] := rfl
  simp only [memB, e, List.append_nil, Bool.and_eq_true, decide_eq_true_eq, allB_iff]
  refine ⟨⟨⟨by simp, vb_iff.2 ⟨fun b hb => ?_, ?_⟩⟩, fun q hq => ?_⟩, blks_len v l 8⟩
  · obtain ⟨i, hi, rfl⟩ := blks_mem hb
    have h1 := hv i hi
    have h2 := hl i hi
    simp only [okB, Bool.and_eq_true, inB_iff]
    exact ⟨⟨by omega, h1⟩, h2⟩
  · have : (blks v l 8).map Blk.a = (List.range 8).map fun i => ((i : Nat) : Int) := by simp only [blks, List.map_map]; rfl
    rw [this]; decide
  · simp only [buB, rep7, Bool.and_eq_true, decide_eq_true_eq, allB_iff]
    exact ⟨by simp, fun j hj => absurd hj (Nat.not_lt_zero _)⟩
abbrev moH (v l : Nat → Int) : List (Nat × Ob) := [(0, .row .u false 1 7 (BB (List.replicate 7 [])) []), (1, .row .u false 3 (blks v l 8).length (SB (blks v l 8)) [])]
theorem c_mo (v l : Nat → Int) (hv : ∀ i, i < 8 → valB (v i) = true) (hl : ∀ i, i < 8 → 0 ≤ l i ∧ l i ≤ 3) : PObj Tryd.prog G0 164 [IL true 8 v, IL true 8 l] [] (.ag [.own 0, .own 1]) (moH v l) := by
  refine PObj.by chk164 rfl (ev_mo v l) ?_
  refine loop_by (st_mo v l) (fun k => k ≤ 7) (fun k => 7 - k) 0 [] [] [7] (by omega) ?_ (evr_mo v l) fun k hk => ?_
  · simp [st_mo, hbs, St.lowers, St.lower, stLe, leEnv, leObs, obLe, injB, pinC, AV.leC, AV.leCs, PV.leC, PV.Le_v, St.get, St.obj, look, rho, isNew, keptC, renH, Mode.ok, Mode.isZ, PV.isVal, PV.isNilSl, List.all_nil, List.all_cons, List.any_nil, List.any_cons, List.map_nil, List.map_cons, PV.Le_self]
  · have ek : IntKind.i64.wrap ((k : Int) + 1) = ((k + 1 : Nat) : Int) := wrap_in (by omega) (by omega)
    simp only [VC.holds_split, VC.holds_need, VC.holds_doneP, VC.holds_done, VC.holds_either, VC.holds_call, VC.holds_callE, VC.holds_lend, VC.holds_stop, VC.holds_fail, decide_eq_true_eq, decide_eq_false_iff_not]
    refine ⟨fun h0 => ⟨⟨⟨by omega, by omega⟩, ?_⟩, Again.mk (k + 1) [] [(7, 17)] [] (by omega) (by omega) ?_⟩, fun h0 => ?_⟩
    · intro i j hi hj
      obtain rfl : i = 0 := by omega
      obtain rfl : j = 0 := by omega
      rfl
    · simp [st_mo, hbs, St.lowers, St.lower, stLe, leEnv, leObs, obLe, injB, pinC, AV.leC, AV.leCs, PV.leC, PV.Le_v, St.get, St.obj, look, rho, isNew, keptC, renH, Mode.ok, Mode.isZ, PV.isVal, PV.isNilSl, List.all_nil, List.all_cons, List.any_nil, List.any_cons, List.map_nil, List.map_cons, PV.Le_self, ek]
      intro i hi
      by_cases h : i < k
      · simp only [h, if_true]; exact .refl _
      · obtain rfl : i = k := by omega
        simp [setG, cellSet]
        exact .sl _ _ (fun e => (by cases e)) 3 _ _ _ _ rfl fun j l hj => absurd hj (Nat.not_lt_zero _)
    · have hk7 : k = 7 := by omega
      subst hk7
      refine loop_by (st_mo2 v l) (fun k => k ≤ 8) (fun k => 8 - k) 0 [] [] [8] (by omega) ?_ (evr_mo2 v l) fun k hk => ?_
      · simp only [st_mo2, BB7]
        simp [hbs, St.lowers, St.lower, stLe, leEnv, leObs, obLe, injB, pinC, AV.leC, AV.leCs, PV.leC, PV.Le_v, St.get, St.obj, look, rho, isNew, keptC, renH, Mode.ok, Mode.isZ, PV.isVal, PV.isNilSl, List.all_nil, List.all_cons, List.any_nil, List.any_cons, List.map_nil, List.map_cons, PV.Le_self]
        rfl
      · have ek : IntKind.i64.wrap ((k : Int) + 1) = ((k + 1 : Nat) : Int) := wrap_in (by omega) (by omega)
        have hL := blks_len v l k
        simp only [VC.holds_split, VC.holds_need, VC.holds_doneP, VC.holds_done, VC.holds_either, VC.holds_call, VC.holds_callE, VC.holds_lend, VC.holds_stop, VC.holds_fail, decide_eq_true_eq, decide_eq_false_iff_not, Int.toNat_natCast]
        refine ⟨fun h0 => ⟨fun h1 => ⟨⟨by omega, by omega⟩, ⟨by omega, by omega⟩, ⟨⟨by omega, by omega⟩, ?_⟩, Again.mk (k + 1) [] [(8, 44)] [] (by omega) (by omega) ?_⟩, fun h1 => absurd h0 h1⟩, fun h0 => ?_⟩
        · intro i j hi hj
          obtain rfl : i = 0 := by omega
          match j, hj with
          | 0, _ => rfl
          | 1, _ => rfl
          | 2, _ => rfl
        · have key := fun i j hi hj => SB_app1 (S := blks v l k) (x := ⟨(k : Int), v k, l k⟩) (F := setG [(0, 0, .v (.int .i64 (k : Int))), (0, 1, .v (.int .i64 (v k))), (0, 2, .v (.int .i64 (l k)))] fun _ j => .v ([Value.int IntKind.i64 0, Value.int IntKind.i64 0, Value.int IntKind.i64 0].getD j undef)) (fun j hj => by
            match j, hj with
            | 0, _ => rfl
            | 1, _ => rfl
            | 2, _ => rfl) (i := i) (j := j) hi hj
          rw [← blks_succ] at key
          have e1 : (blks v l (k + 1)).length = (blks v l k).length + 1 := by simp [blks_len]
          simp only [st_mo2, e1, ek]
          generalize SB (blks v l (k + 1)) = G at *
          generalize SB (blks v l k) = G' at *
          simp [hbs, St.lowers, St.lower, stLe, leEnv, leObs, obLe, injB, pinC, AV.leC, AV.leCs, PV.leC, PV.Le_v, St.get, St.obj, look, rho, isNew, keptC, renH, Mode.ok, Mode.isZ, PV.isVal, PV.isNilSl, List.all_nil, List.all_cons, List.any_nil, List.any_cons, List.map_nil, List.map_cons, PV.Le_self]
          exact key
        · have hk8 : k = 8 := by omega
          subst hk8
          have hm := memB_blks hv hl
          refine ⟨c_smM7 _ (by omega), fun h1 => absurd h1 (by rw [hm]; decide), fun h1 => ?_⟩
          simp only [moH]
          refine ResOk.mk [] [(0, 7), (1, 8)] [] _ _ ?_ ⟨rfl, rfl⟩
          generalize BB (List.replicate 7 []) = G at *
          simp [doneC, resOf, resAV, tup, pinR, PV.Le_self, hbs, St.lowers, St.lower, stLe, leEnv, leObs, obLe, injB, pinC, AV.leC, AV.leCs, PV.leC, PV.Le_v, St.get, St.obj, look, rho, isNew, keptC, renH, Mode.ok, Mode.isZ, PV.isVal, PV.isNilSl, List.all_nil, List.all_cons, List.any_nil, List.any_cons, List.map_nil, List.map_cons, res164]
/-! ### memories -/
def in_dM (nn : Bool) (n : Nat) (f : Nat → Int) (p : Nat) (m : Int) := (G0, res131, [(0, RD nn n f p)], [Item.ir ir131], start [.adr 0 0, AI m] [(0, RD nn n f p)])
theorem ev_dM : ∀ (nn : Bool) (n : Nat) (f : Nat → Int) (p : Nat) (m : Int), ev G0 res131 [((0 : Nat), RD nn n f p)] (3000 : Nat) Or.nil [Item.ir ir131] (start [AV.adr (0 : Nat) (0 : Nat), AI m] [((0 : Nat), RD nn n f p)]) = VC.loop ir131_L1 [Item.bend (0 : Nat), Item.ir ir131_T2] (St.mk [((0 : Nat), AV.adr (100000 : Nat) (0 : Nat)), ((1 : Nat), AV.p true (PV.v (Value.int IntKind.i64 m))), ((4 : Nat), AV.adr (4 : Nat) (0 : Nat)), ((5 : Nat), AV.own (12 : Nat)), ((6 : Nat), AV.own (13 : Nat)), ((7 : Nat), AV.p true (PV.v (Value.int IntKind.i64 (0 : Int))))] [((100000 : Nat), Ob.box [AV.p false (PV.sl nn (1 : Nat) n (PB f)), AV.p true (PV.v (Value.int IntKind.i64 (↑p : Int)))]), ((4 : Nat), Ob.box [AV.p true (PV.v (Value.slice none (0 : Nat) (0 : Nat))), AV.p true (PV.v (Value.slice none (0 : Nat) (0 : Nat)))]), ((12 : Nat), Ob.row Mode.u true (1 : Nat) (0 : Nat) (setG [] fun (x j : Nat) => PV.v ([Value.int IntKind.i64 (0 : Int)].getD j undef)) []), ((13 : Nat), Ob.row Mode.u true (1 : Nat) (0 : Nat) (setG [] fun (x j : Nat) => PV.v ([Value.int IntKind.i64 (0 : Int)].getD j undef)) [])]) := by intros; kernel_rfl
def vM (n : Nat) (f : Nat → Int) (p i : Nat) : Int := pickV n f (p + 2 * i) 256 - 100
def lM (n : Nat) (f : Nat → Int) (p i : Nat) : Int := pickV n f (p + 2 * i + 1) 4
theorem vM_ok {n : Nat} {f : Nat → Int} {p i : Nat} (hb : Bytes f) (hp : p ≤ 100000000) (hi : i < 8) : valB (vM n f p i) = true := by
  have := pick_rng (n := n) (p := p + 2 * i) (m := 256) hb (by omega) (by omega)
  simp only [valB, inB_iff, vM]; omega
theorem lM_ok {n : Nat} {f : Nat → Int} {p i : Nat} (hb : Bytes f) (hp : p ≤ 100000000) (hi : i < 8) : 0 ≤ lM n f p i ∧ lM n f p i ≤ 3 := by
  have := pick_rng (n := n) (p := p + 2 * i + 1) (m := 4) hb (by omega) (by omega)
  simp only [lM]; omega
theorem c_mo8 (v l : Nat → Int) (k : Nat) (hk : k = 8) (hv : ∀ i, i < 8 → valB (v i) = true) (hl : ∀ i, i < 8 → 0 ≤ l i ∧ l i ≤ 3) : PObj Tryd.prog G0 164 [IL true k v, IL true k l] [] (.ag [.own 0, .own 1]) (moH v l) := by
  subst hk; exact c_mo v l hv hl
theorem c_dU0 (nn : Bool) (n : Nat) (f : Nat → Int) (p : Nat) (hb : Bytes f) (hp : p ≤ 100000000) : PSome Tryd.prog G0 132 [.adr 0 0, AI 0] [(0, RD nn n f p)] (List Us × Nat) (UsD p 0) (fun _ => .own 1) (usD nn n f) := c_dU nn n f p 0 hb hp
abbrev T7 : List (List Blk) := List.replicate 7 []
theorem c_spR7 (S : List Blk) (U : List Us) (hS : S.length ≤ 1000) : PObj Tryd.prog G0 163 [.ag [.p false (.sl false 1 7 (BB T7)), BS false S], UL false U] [] (rR T7 S U) (rH T7 S U) := c_spR T7 S U (by decide) (by simpa using Nat.le_trans hS (by decide))
def st_dM (nn : Bool) (n : Nat) (f : Nat → Int) (p : Nat) (m : Int) (k : Nat) : St := ⟨[(0, .adr 100000 0), (1, AI m), (4, .adr 4 0), (5, .own 12), (6, .own 13), (7, AI k)], [(100000, RD nn n f (p + 2 * k)), (4, nilB2), (12, .row .u true 1 k (fun i _ => PI (vM n f p i)) []), (13, .row .u true 1 k (fun i _ => PI (lM n f p i)) [])]⟩
def r_dM (nn : Bool) (n : Nat) (f : Nat → Int) (p : Nat) (m : Int) (I : Nat → St → Prop) (k : Nat) := (G0, res131, [(0, RD nn n f p)], [Item.ir ir131_L1, .lend (I k), Item.bend 0, Item.ir ir131_T2], st_dM nn n f p m k)
theorem evr_dM : ∀ (nn : Bool) (n : Nat) (f : Nat → Int) (p : Nat) (m : Int) (I : Nat → St → Prop) (k : Nat), ev G0 res131 [((0 : Nat), RD nn n f p)] (3000 : Nat) ((Or.call [(100000 : Nat)] (AI (pickV n f (p + (2 : Nat) * k) (256 : Int))) [((0 : Nat), RD nn n f (p + (2 : Nat) * k + (1 : Nat)))] (Or.call [(100000 : Nat)] (AI (pickV n f (p + (2 : Nat) * k + (1 : Nat)) (4 : Int))) [((0 : Nat), RD nn n f (p + (2 : Nat) * k + (1 : Nat) + (1 : Nat)))] Or.nil)).split (Or.call [] (AV.ag [AV.own (0 : Nat), AV.own (1 : Nat)]) (moH (vM n f p) (lM n f p)) (Or.callE [(100000 : Nat)] (List Us × Nat) (UsD (p + (2 : Nat) * k) (0 : Int)) (fun (x : List Us × Nat) => AV.own (1 : Nat)) (usD nn n f) fun (x : List Us × Nat) => Or.call [] (rR T7 (blks (vM n f p) (lM n f p) (8 : Nat)) x.1) (rH T7 (blks (vM n f p) (lM n f p) (8 : Nat)) x.1) (Or.callE [(100000 : Nat)] (Bool × Nat) (fun (y : Bool × Nat) => x.2 ≤ y.snd ∧ y.snd ≤ x.2 + (1 : Nat) ∧ (m ≤ (0 : Int) → y.fst = false)) (fun (y : Bool × Nat) => AB y.fst) (fun (y : Bool × Nat) => [((0 : Nat), RD nn n f y.snd)]) fun (y : Bool × Nat) => (Or.call [(100000 : Nat)] (AI (pickV n f y.2 (5 : Int))) [((0 : Nat), RD nn n f (y.2 + (1 : Nat)))] ((Or.stop (0 : Nat)).split ((Or.call [(100000 : Nat)] (AI (pickV n f (y.2 + (1 : Nat)) (9 : Int))) [((0 : Nat), RD nn n f (y.2 + (1 : Nat) + (1 : Nat)))] Or.nil).split ((Or.call [(100000 : Nat)] (AI (pickV n f (y.2 + (1 : Nat)) (7 : Int))) [((0 : Nat), RD nn n f (y.2 + (1 : Nat) + (1 : Nat)))] Or.nil).split (Or.nil.split Or.nil))))).split Or.nil)))) [Item.ir ir131_L1, Item.lend (I k), Item.bend (0 : Nat), Item.ir ir131_T2] (st_dM nn n f p m k) = VC.split (decide ((↑k : Int) < (8 : Int))) (VC.call (87 : Nat) [AV.adr (0 : Nat) (0 : Nat), AV.p true (PV.v (Value.int IntKind.i64 (256 : Int)))] [((0 : Nat), Ob.box [AV.p false (PV.sl nn (1 : Nat) n (PB f)), AV.p true (PV.v (Value.int IntKind.i64 (↑(p + (2 : Nat) * k) : Int)))])] (AI (pickV n f (p + (2 : Nat) * k) (256 : Int))) [((0 : Nat), RD nn n f (p + (2 : Nat) * k + (1 : Nat)))] (VC.need (((k + (1 : Nat)) * (8 : Nat) ≤ (140737488355328 : Nat) ∧ (↑(k + (1 : Nat)) : Int) ≤ (9223372036854775807 : Int)) ∧ allV (1 : Nat) (1 : Nat) (setG [((0 : Nat), (0 : Nat), PV.v (Value.int IntKind.i64 (IntKind.i64.wrap (pickV n f (p + (2 : Nat) * k) (256 : Int) - (100 : Int)))))] fun (x j : Nat) => PV.v ([Value.int IntKind.i64 (0 : Int)].getD j undef))) (VC.call (87 : Nat) [AV.adr (0 : Nat) (0 : Nat), AV.p true (PV.v (Value.int IntKind.i64 (4 : Int)))] [((0 : Nat), Ob.box [AV.p false (PV.sl nn (1 : Nat) n (PB f)), AV.p true (PV.v (Value.int IntKind.i64 (↑(p + (2 : Nat) * k + (1 : Nat)) : Int)))])] (AI (pickV n f (p + (2 : Nat) * k + (1 : Nat)) (4 : Int))) [((0 : Nat), RD nn n f (p + (2 : Nat) * k + (1 : Nat) + (1 : Nat)))] (VC.need (((k + (1 : Nat)) * (8 : Nat) ≤ (140737488355328 : Nat) ∧ (↑(k + (1 : Nat)) : Int) ≤ (9223372036854775807 : Int)) ∧ allV (1 : Nat) (1 : Nat) (setG [((0 : Nat), (0 : Nat), PV.v (Value.int IntKind.i64 (pickV n f (p + (2 : Nat) * k + (1 : Nat)) (4 : Int))))] fun (x j : Nat) => PV.v ([Value.int IntKind.i64 (0 : Int)].getD j undef))) (VC.lend (I k) (St.mk [((0 : Nat), AV.adr (100000 : Nat) (0 : Nat)), ((1 : Nat), AV.p true (PV.v (Value.int IntKind.i64 m))), ((4 : Nat), AV.adr (4 : Nat) (0 : Nat)), ((5 : Nat), AV.own (23 : Nat)), ((6 : Nat), AV.own (28 : Nat)), ((7 : Nat), AV.p true (PV.v (Value.int IntKind.i64 (IntKind.i64.wrap ((↑k : Int) + (1 : Int)))))), ((15 : Nat), AV.p true (PV.v (Value.bool (decide ((↑k : Int) < (8 : Int))))))] [((100000 : Nat), Ob.box [AV.p false (PV.sl nn (1 : Nat) n (PB f)), AV.p true (PV.v (Value.int IntKind.i64 (↑(p + (2 : Nat) * k + (1 : Nat) + (1 : Nat)) : Int)))]), ((4 : Nat), Ob.box [AV.p true (PV.v (Value.slice none (0 : Nat) (0 : Nat))), AV.p true (PV.v (Value.slice none (0 : Nat) (0 : Nat)))]), ((23 : Nat), Ob.row Mode.u true (1 : Nat) (k + (1 : Nat)) (fun (a b : Nat) => if a < k then PI (vM n f p a) else setG [((0 : Nat), (0 : Nat), PV.v (Value.int IntKind.i64 (IntKind.i64.wrap (pickV n f (p + (2 : Nat) * k) (256 : Int) - (100 : Int)))))] (fun (x j : Nat) => PV.v ([Value.int IntKind.i64 (0 : Int)].getD j undef)) (a - k) b) []), ((28 : Nat), Ob.row Mode.u true (1 : Nat) (k + (1 : Nat)) (fun (a b : Nat) => if a < k then PI (lM n f p a) else setG [((0 : Nat), (0 : Nat), PV.v (Value.int IntKind.i64 (pickV n f (p + (2 : Nat) * k + (1 : Nat)) (4 : Int))))] (fun (x j : Nat) => PV.v ([Value.int IntKind.i64 (0 : Int)].getD j undef)) (a - k) b) [])])))))) (VC.call (164 : Nat) [AV.p false (PV.sl true (1 : Nat) k fun (i x : Nat) => PI (vM n f p i)), AV.p false (PV.sl true (1 : Nat) k fun (i x : Nat) => PI (lM n f p i))] [] (AV.ag [AV.own (0 : Nat), AV.own (1 : Nat)]) (moH (vM n f p) (lM n f p)) (VC.callE (List Us × Nat) (132 : Nat) [AV.adr (0 : Nat) (0 : Nat), AV.p true (PV.v (Value.int IntKind.i64 (0 : Int)))] [((0 : Nat), Ob.box [AV.p false (PV.sl nn (1 : Nat) n (PB f)), AV.p true (PV.v (Value.int IntKind.i64 (↑(p + (2 : Nat) * k) : Int)))])] (UsD (p + (2 : Nat) * k) (0 : Int)) (fun (x : List Us × Nat) => AV.own (1 : Nat)) (usD nn n f) fun (x : List Us × Nat) => VC.call (163 : Nat) [AV.ag [AV.p false (PV.sl false (1 : Nat) (7 : Nat) (BB (List.replicate (7 : Nat) []))), AV.p false (PV.sl false (3 : Nat) (blks (vM n f p) (lM n f p) (8 : Nat)).length (SB (blks (vM n f p) (lM n f p) (8 : Nat))))], AV.p false (PV.sl false (4 : Nat) x.1.length (UB x.1))] [] (rR T7 (blks (vM n f p) (lM n f p) (8 : Nat)) x.1) (rH T7 (blks (vM n f p) (lM n f p) (8 : Nat)) x.1) (VC.callE (Bool × Nat) (106 : Nat) [AV.adr (0 : Nat) (0 : Nat), AV.p true (PV.v (Value.int IntKind.i64 m))] [((0 : Nat), Ob.box [AV.p false (PV.sl nn (1 : Nat) n (PB f)), AV.p true (PV.v (Value.int IntKind.i64 (↑x.2 : Int)))])] (fun (y : Bool × Nat) => x.2 ≤ y.snd ∧ y.snd ≤ x.2 + (1 : Nat) ∧ (m ≤ (0 : Int) → y.fst = false)) (fun (y : Bool × Nat) => AB y.fst) (fun (y : Bool × Nat) => [((0 : Nat), RD nn n f y.snd)]) fun (y : Bool × Nat) => VC.split y.1 (VC.call (87 : Nat) [AV.adr (0 : Nat) (0 : Nat), AV.p true (PV.v (Value.int IntKind.i64 (5 : Int)))] [((0 : Nat), Ob.box [AV.p false (PV.sl nn (1 : Nat) n (PB f)), AV.p true (PV.v (Value.int IntKind.i64 (↑y.2 : Int)))])] (AI (pickV n f y.2 (5 : Int))) [((0 : Nat), RD nn n f (y.2 + (1 : Nat)))] (VC.split (pickV n f y.2 (5 : Int) == (0 : Int)) (VC.stop [Item.ir ir131_C1, Item.bend (2 : Nat), Item.ir ir131_D1] (St.mk [((0 : Nat), AV.adr (100000 : Nat) (0 : Nat)), ((1 : Nat), AV.p true (PV.v (Value.int IntKind.i64 m))), ((4 : Nat), AV.adr (4 : Nat) (0 : Nat)), ((5 : Nat), AV.own (12 : Nat)), ((6 : Nat), AV.own (13 : Nat)), ((7 : Nat), AV.p true (PV.v (Value.int IntKind.i64 (↑k : Int)))), ((15 : Nat), AV.p true (PV.v (Value.bool (decide ((↑k : Int) < (8 : Int)))))), ((8 : Nat), AV.adr (8 : Nat) (0 : Nat)), ((42 : Nat), AV.p true (PV.v (Value.bool y.1))), ((44 : Nat), AV.p true (PV.v (Value.int IntKind.i64 (pickV n f y.2 (5 : Int))))), ((46 : Nat), AV.p true (PV.v (Value.bool (pickV n f y.2 (5 : Int) == (0 : Int)))))] [((100000 : Nat), Ob.box [AV.p false (PV.sl nn (1 : Nat) n (PB f)), AV.p true (PV.v (Value.int IntKind.i64 (↑(y.2 + (1 : Nat)) : Int)))]), ((4 : Nat), Ob.box [AV.p true (PV.v (Value.slice none (0 : Nat) (0 : Nat))), AV.p true (PV.v (Value.slice none (0 : Nat) (0 : Nat)))]), ((12 : Nat), Ob.row Mode.u true (1 : Nat) k (fun (i x_1 : Nat) => PI (vM n f p i)) []), ((13 : Nat), Ob.row Mode.u true (1 : Nat) k (fun (i x_1 : Nat) => PI (lM n f p i)) []), ((1035 : Nat), Ob.row Mode.u false (1 : Nat) (rT T7 (blks (vM n f p) (lM n f p) (8 : Nat)) x.1).length (BB (rT T7 (blks (vM n f p) (lM n f p) (8 : Nat)) x.1)) []), ((2035 : Nat), Ob.row Mode.u false (3 : Nat) (rS T7 (blks (vM n f p) (lM n f p) (8 : Nat)) x.1).length (SB (rS T7 (blks (vM n f p) (lM n f p) (8 : Nat)) x.1)) []), ((8 : Nat), Ob.box [AV.own (1035 : Nat), AV.own (2035 : Nat)])])) (VC.split (pickV n f y.2 (5 : Int) == (1 : Int)) (VC.call (87 : Nat) [AV.adr (0 : Nat) (0 : Nat), AV.p true (PV.v (Value.int IntKind.i64 (9 : Int)))] [((0 : Nat), Ob.box [AV.p false (PV.sl nn (1 : Nat) n (PB f)), AV.p true (PV.v (Value.int IntKind.i64 (↑(y.2 + (1 : Nat)) : Int)))])] (AI (pickV n f (y.2 + (1 : Nat)) (9 : Int))) [((0 : Nat), RD nn n f (y.2 + (1 : Nat) + (1 : Nat)))] (VC.need ((((rS T7 (blks (vM n f p) (lM n f p) (8 : Nat)) x.1).length + (1 : Nat)) * (24 : Nat) ≤ (140737488355328 : Nat) ∧ (↑((rS T7 (blks (vM n f p) (lM n f p) (8 : Nat)) x.1).length + (1 : Nat)) : Int) ≤ (9223372036854775807 : Int)) ∧ allV (3 : Nat) (1 : Nat) (setG [((0 : Nat), (0 : Nat), PV.v (Value.int IntKind.i64 (pickV n f (y.2 + (1 : Nat)) (9 : Int)))), ((0 : Nat), (1 : Nat), PV.v (Value.int IntKind.i64 (0 : Int))), ((0 : Nat), (2 : Nat), PV.v (Value.int IntKind.i64 (0 : Int)))] fun (x_1 j : Nat) => PV.v ([Value.int IntKind.i64 (0 : Int), Value.int IntKind.i64 (0 : Int), Value.int IntKind.i64 (0 : Int)].getD j undef))) (VC.done (St.mk [((0 : Nat), AV.adr (100000 : Nat) (0 : Nat)), ((1 : Nat), AV.p true (PV.v (Value.int IntKind.i64 m))), ((4 : Nat), AV.adr (4 : Nat) (0 : Nat)), ((5 : Nat), AV.own (12 : Nat)), ((6 : Nat), AV.own (13 : Nat)), ((7 : Nat), AV.p true (PV.v (Value.int IntKind.i64 (↑k : Int)))), ((15 : Nat), AV.p true (PV.v (Value.bool (decide ((↑k : Int) < (8 : Int)))))), ((8 : Nat), AV.adr (8 : Nat) (0 : Nat)), ((42 : Nat), AV.p true (PV.v (Value.bool y.1))), ((44 : Nat), AV.p true (PV.v (Value.int IntKind.i64 (pickV n f y.2 (5 : Int))))), ((46 : Nat), AV.p true (PV.v (Value.bool (pickV n f y.2 (5 : Int) == (0 : Int))))), ((52 : Nat), AV.p true (PV.v (Value.bool (pickV n f y.2 (5 : Int) == (1 : Int)))))] [((100000 : Nat), Ob.box [AV.p false (PV.sl nn (1 : Nat) n (PB f)), AV.p true (PV.v (Value.int IntKind.i64 (↑(y.2 + (1 : Nat) + (1 : Nat)) : Int)))]), ((4 : Nat), Ob.box [AV.own (1035 : Nat), AV.own (60 : Nat)]), ((12 : Nat), Ob.row Mode.u true (1 : Nat) k (fun (i x_1 : Nat) => PI (vM n f p i)) []), ((13 : Nat), Ob.row Mode.u true (1 : Nat) k (fun (i x_1 : Nat) => PI (lM n f p i)) []), ((1035 : Nat), Ob.row Mode.u false (1 : Nat) (rT T7 (blks (vM n f p) (lM n f p) (8 : Nat)) x.1).length (BB (rT T7 (blks (vM n f p) (lM n f p) (8 : Nat)) x.1)) []), ((8 : Nat), Ob.box [AV.own (1035 : Nat), AV.own (60 : Nat)]), ((60 : Nat), Ob.row Mode.u false (3 : Nat) ((rS T7 (blks (vM n f p) (lM n f p) (8 : Nat)) x.1).length + (1 : Nat)) (fun (a b : Nat) => if a < (rS T7 (blks (vM n f p) (lM n f p) (8 : Nat)) x.1).length then SB (rS T7 (blks (vM n f p) (lM n f p) (8 : Nat)) x.1) a b else setG [((0 : Nat), (0 : Nat), PV.v (Value.int IntKind.i64 (pickV n f (y.2 + (1 : Nat)) (9 : Int)))), ((0 : Nat), (1 : Nat), PV.v (Value.int IntKind.i64 (0 : Int))), ((0 : Nat), (2 : Nat), PV.v (Value.int IntKind.i64 (0 : Int)))] (fun (x_1 j : Nat) => PV.v ([Value.int IntKind.i64 (0 : Int), Value.int IntKind.i64 (0 : Int), Value.int IntKind.i64 (0 : Int)].getD j undef)) (a - (rS T7 (blks (vM n f p) (lM n f p) (8 : Nat)) x.1).length) b) [])])))) (VC.split (pickV n f y.2 (5 : Int) == (2 : Int)) (VC.call (87 : Nat) [AV.adr (0 : Nat) (0 : Nat), AV.p true (PV.v (Value.int IntKind.i64 (7 : Int)))] [((0 : Nat), Ob.box [AV.p false (PV.sl nn (1 : Nat) n (PB f)), AV.p true (PV.v (Value.int IntKind.i64 (↑(y.2 + (1 : Nat)) : Int)))])] (AI (pickV n f (y.2 + (1 : Nat)) (7 : Int))) [((0 : Nat), RD nn n f (y.2 + (1 : Nat) + (1 : Nat)))] (VC.need ((0 : Int) ≤ pickV n f (y.2 + (1 : Nat)) (7 : Int) ∧ (pickV n f (y.2 + (1 : Nat)) (7 : Int)).toNat < (rT T7 (blks (vM n f p) (lM n f p) (8 : Nat)) x.1).length) (VC.need ((pickV n f (y.2 + (1 : Nat)) (7 : Int)).toNat < (rT T7 (blks (vM n f p) (lM n f p) (8 : Nat)) x.1).length) (VC.done (St.mk [((0 : Nat), AV.adr (100000 : Nat) (0 : Nat)), ((1 : Nat), AV.p true (PV.v (Value.int IntKind.i64 m))), ((4 : Nat), AV.adr (4 : Nat) (0 : Nat)), ((5 : Nat), AV.own (12 : Nat)), ((6 : Nat), AV.own (13 : Nat)), ((7 : Nat), AV.p true (PV.v (Value.int IntKind.i64 (↑k : Int)))), ((15 : Nat), AV.p true (PV.v (Value.bool (decide ((↑k : Int) < (8 : Int)))))), ((8 : Nat), AV.adr (8 : Nat) (0 : Nat)), ((42 : Nat), AV.p true (PV.v (Value.bool y.1))), ((44 : Nat), AV.p true (PV.v (Value.int IntKind.i64 (pickV n f y.2 (5 : Int))))), ((46 : Nat), AV.p true (PV.v (Value.bool (pickV n f y.2 (5 : Int) == (0 : Int))))), ((52 : Nat), AV.p true (PV.v (Value.bool (pickV n f y.2 (5 : Int) == (1 : Int))))), ((62 : Nat), AV.p true (PV.v (Value.bool (pickV n f y.2 (5 : Int) == (2 : Int)))))] [((100000 : Nat), Ob.box [AV.p false (PV.sl nn (1 : Nat) n (PB f)), AV.p true (PV.v (Value.int IntKind.i64 (↑(y.2 + (1 : Nat) + (1 : Nat)) : Int)))]), ((4 : Nat), Ob.box [AV.own (1035 : Nat), AV.own (2035 : Nat)]), ((12 : Nat), Ob.row Mode.u true (1 : Nat) k (fun (i x_1 : Nat) => PI (vM n f p i)) []), ((13 : Nat), Ob.row Mode.u true (1 : Nat) k (fun (i x_1 : Nat) => PI (lM n f p i)) []), ((1035 : Nat), Ob.row Mode.u false (1 : Nat) (rT T7 (blks (vM n f p) (lM n f p) (8 : Nat)) x.1).length (setG [((pickV n f (y.2 + (1 : Nat)) (7 : Int)).toNat, (0 : Nat), PV.sl true (3 : Nat) (3 : Nat) fun (a b : Nat) => if b = (0 : Nat) + (1 : Nat) + (1 : Nat) ∧ a = nat_lit 2 then PV.v (Value.int IntKind.i64 (0 : Int)) else cellSet (cellSet (cellSet (cellSet (cellSet (cellSet (cellSet (cellSet (fun (x_1 j : Nat) => PV.v ([Value.int IntKind.i64 (0 : Int), Value.int IntKind.i64 (0 : Int), Value.int IntKind.i64 (0 : Int)].getD j undef)) (nat_lit 0) (0 : Nat) (PV.v (Value.int IntKind.i64 (0 : Int)))) (nat_lit 0) ((0 : Nat) + (1 : Nat)) (PV.v (Value.int IntKind.i64 (0 : Int)))) (nat_lit 0) ((0 : Nat) + (1 : Nat) + (1 : Nat)) (PV.v (Value.int IntKind.i64 (0 : Int)))) (nat_lit 1) (0 : Nat) (PV.v (Value.int IntKind.i64 (0 : Int)))) (nat_lit 1) ((0 : Nat) + (1 : Nat)) (PV.v (Value.int IntKind.i64 (0 : Int)))) (nat_lit 1) ((0 : Nat) + (1 : Nat) + (1 : Nat)) (PV.v (Value.int IntKind.i64 (0 : Int)))) (nat_lit 2) (0 : Nat) (PV.v (Value.int IntKind.i64 (0 : Int)))) (nat_lit 2) ((0 : Nat) + (1 : Nat)) (PV.v (Value.int IntKind.i64 (0 : Int))) a b)] (BB (rT T7 (blks (vM n f p) (lM n f p) (8 : Nat)) x.1))) []), ((2035 : Nat), Ob.row Mode.u false (3 : Nat) (rS T7 (blks (vM n f p) (lM n f p) (8 : Nat)) x.1).length (SB (rS T7 (blks (vM n f p) (lM n f p) (8 : Nat)) x.1)) []), ((8 : Nat), Ob.box [AV.own (1035 : Nat), AV.own (2035 : Nat)])]))))) (VC.split (pickV n f y.2 (5 : Int) == (3 : Int)) (VC.need ((0 : Int) ≤ (3 : Int) ∧ Int.toNat (3 : Int) < (rT T7 (blks (vM n f p) (lM n f p) (8 : Nat)) x.1).length) (VC.need ((3 : Nat) < (rT T7 (blks (vM n f p) (lM n f p) (8 : Nat)) x.1).length) (VC.done (St.mk [((0 : Nat), AV.adr (100000 : Nat) (0 : Nat)), ((1 : Nat), AV.p true (PV.v (Value.int IntKind.i64 m))), ((4 : Nat), AV.adr (4 : Nat) (0 : Nat)), ((5 : Nat), AV.own (12 : Nat)), ((6 : Nat), AV.own (13 : Nat)), ((7 : Nat), AV.p true (PV.v (Value.int IntKind.i64 (↑k : Int)))), ((15 : Nat), AV.p true (PV.v (Value.bool (decide ((↑k : Int) < (8 : Int)))))), ((8 : Nat), AV.adr (8 : Nat) (0 : Nat)), ((42 : Nat), AV.p true (PV.v (Value.bool y.1))), ((44 : Nat), AV.p true (PV.v (Value.int IntKind.i64 (pickV n f y.2 (5 : Int))))), ((46 : Nat), AV.p true (PV.v (Value.bool (pickV n f y.2 (5 : Int) == (0 : Int))))), ((52 : Nat), AV.p true (PV.v (Value.bool (pickV n f y.2 (5 : Int) == (1 : Int))))), ((62 : Nat), AV.p true (PV.v (Value.bool (pickV n f y.2 (5 : Int) == (2 : Int))))), ((73 : Nat), AV.p true (PV.v (Value.bool (pickV n f y.2 (5 : Int) == (3 : Int)))))] [((100000 : Nat), Ob.box [AV.p false (PV.sl nn (1 : Nat) n (PB f)), AV.p true (PV.v (Value.int IntKind.i64 (↑(y.2 + (1 : Nat)) : Int)))]), ((4 : Nat), Ob.box [AV.own (1035 : Nat), AV.own (2035 : Nat)]), ((12 : Nat), Ob.row Mode.u true (1 : Nat) k (fun (i x_1 : Nat) => PI (vM n f p i)) []), ((13 : Nat), Ob.row Mode.u true (1 : Nat) k (fun (i x_1 : Nat) => PI (lM n f p i)) []), ((1035 : Nat), Ob.row Mode.u false (1 : Nat) (rT T7 (blks (vM n f p) (lM n f p) (8 : Nat)) x.1).length (setG [((3 : Nat), (0 : Nat), PV.sl true (3 : Nat) (1 : Nat) (setG [((0 : Nat), (0 : Nat), PV.v (Value.int IntKind.i64 (0 : Int))), ((0 : Nat), (1 : Nat), PV.v (Value.int IntKind.i64 (0 : Int))), ((0 : Nat), (2 : Nat), PV.v (Value.int IntKind.i64 (2 : Int)))] fun (x_1 j : Nat) => PV.v ([Value.int IntKind.i64 (0 : Int), Value.int IntKind.i64 (0 : Int), Value.int IntKind.i64 (0 : Int)].getD j undef)))] (BB (rT T7 (blks (vM n f p) (lM n f p) (8 : Nat)) x.1))) []), ((2035 : Nat), Ob.row Mode.u false (3 : Nat) (rS T7 (blks (vM n f p) (lM n f p) (8 : Nat)) x.1).length (SB (rS T7 (blks (vM n f p) (lM n f p) (8 : Nat)) x.1)) []), ((8 : Nat), Ob.box [AV.own (1035 : Nat), AV.own (2035 : Nat)])])))) (VC.done (St.mk [((0 : Nat), AV.adr (100000 : Nat) (0 : Nat)), ((1 : Nat), AV.p true (PV.v (Value.int IntKind.i64 m))), ((4 : Nat), AV.adr (4 : Nat) (0 : Nat)), ((5 : Nat), AV.own (12 : Nat)), ((6 : Nat), AV.own (13 : Nat)), ((7 : Nat), AV.p true (PV.v (Value.int IntKind.i64 (↑k : Int)))), ((15 : Nat), AV.p true (PV.v (Value.bool (decide ((↑k : Int) < (8 : Int)))))), ((8 : Nat), AV.adr (8 : Nat) (0 : Nat)), ((42 : Nat), AV.p true (PV.v (Value.bool y.1))), ((44 : Nat), AV.p true (PV.v (Value.int IntKind.i64 (pickV n f y.2 (5 : Int))))), ((46 : Nat), AV.p true (PV.v (Value.bool (pickV n f y.2 (5 : Int) == (0 : Int))))), ((52 : Nat), AV.p true (PV.v (Value.bool (pickV n f y.2 (5 : Int) == (1 : Int))))), ((62 : Nat), AV.p true (PV.v (Value.bool (pickV n f y.2 (5 : Int) == (2 : Int))))), ((73 : Nat), AV.p true (PV.v (Value.bool (pickV n f y.2 (5 : Int) == (3 : Int)))))] [((100000 : Nat), Ob.box [AV.p false (PV.sl nn (1 : Nat) n (PB f)), AV.p true (PV.v (Value.int IntKind.i64 (↑(y.2 + (1 : Nat)) : Int)))]), ((4 : Nat), Ob.box [AV.p true (PV.v (Value.slice none (0 : Nat) (0 : Nat))), AV.p true (PV.v (Value.slice none (0 : Nat) (0 : Nat)))]), ((12 : Nat), Ob.row Mode.u true (1 : Nat) k (fun (i x_1 : Nat) => PI (vM n f p i)) []), ((13 : Nat), Ob.row Mode.u true (1 : Nat) k (fun (i x_1 : Nat) => PI (lM n f p i)) []), ((8 : Nat), Ob.box [AV.p true (PV.v (Value.slice none (0 : Nat) (0 : Nat))), AV.p true (PV.v (Value.slice none (0 : Nat) (0 : Nat)))])]))))))) (VC.done (St.mk [((0 : Nat), AV.adr (100000 : Nat) (0 : Nat)), ((1 : Nat), AV.p true (PV.v (Value.int IntKind.i64 m))), ((4 : Nat), AV.adr (4 : Nat) (0 : Nat)), ((5 : Nat), AV.own (12 : Nat)), ((6 : Nat), AV.own (13 : Nat)), ((7 : Nat), AV.p true (PV.v (Value.int IntKind.i64 (↑k : Int)))), ((15 : Nat), AV.p true (PV.v (Value.bool (decide ((↑k : Int) < (8 : Int)))))), ((8 : Nat), AV.adr (8 : Nat) (0 : Nat)), ((42 : Nat), AV.p true (PV.v (Value.bool y.1)))] [((100000 : Nat), Ob.box [AV.p false (PV.sl nn (1 : Nat) n (PB f)), AV.p true (PV.v (Value.int IntKind.i64 (↑y.2 : Int)))]), ((4 : Nat), Ob.box [AV.own (1035 : Nat), AV.own (2035 : Nat)]), ((12 : Nat), Ob.row Mode.u true (1 : Nat) k (fun (i x_1 : Nat) => PI (vM n f p i)) []), ((13 : Nat), Ob.row Mode.u true (1 : Nat) k (fun (i x_1 : Nat) => PI (lM n f p i)) []), ((1035 : Nat), Ob.row Mode.u false (1 : Nat) (rT T7 (blks (vM n f p) (lM n f p) (8 : Nat)) x.1).length (BB (rT T7 (blks (vM n f p) (lM n f p) (8 : Nat)) x.1)) []), ((2035 : Nat), Ob.row Mode.u false (3 : Nat) (rS T7 (blks (vM n f p) (lM n f p) (8 : Nat)) x.1).length (SB (rS T7 (blks (vM n f p) (lM n f p) (8 : Nat)) x.1)) []), ((8 : Nat), Ob.box [AV.own (1035 : Nat), AV.own (2035 : Nat)])]))))) := by intros; kernel_rfl
theorem rOk_all {T : List (List Blk)} {S : List Blk} {U : List Us} (hv : memB T S = true) (hU : ∀ u, u ∈ U → usOk u = true) : ∀ {k}, k ≤ U.length → ∀ j, j < k → rOk T S U j = true
  | 0, _, j, hj => absurd hj (Nat.not_lt_zero _)
  | k + 1, hk, j, hj => by
    have ih := rOk_all hv hU (k := k) (by omega)
    by_cases h : j = k
    · subst h
      have h1 := (run_leaf hv ih).1
      have h2 := hU (U.getD j u0) (by
        rw [List.getD_eq_getElem?_getD, List.getElem?_eq_getElem (by omega), Option.getD_some]
        exact List.getElem_mem _)
      simp only [usOk, Bool.and_eq_true] at h2
      simp only [rOk, useOk, h1, h2.1.1, h2.1.2, h2.2, Bool.and_self]
    · exact ih j (by omega)
theorem rAll_t {T : List (List Blk)} {S : List Blk} {U : List Us} (hv : memB T S = true) (hn : U.length ≤ 40) (hU : ∀ u, u ∈ U → usOk u = true) : rAll T S U = true := by
  simp only [rAll, hv, hn, decide_true, Bool.true_and]
  exact allB_iff.2 fun j hj => rOk_all hv hU (Nat.le_refl _) j hj
structure DM where
  T : List (List Blk)
  S : List Blk
  p : Nat
structure DmOk (p : Nat) (d : DM) : Prop where
  hT : d.T.length ≤ 1000
  hS : d.S.length + d.T.flatten.length ≤ 5000
  hp : p ≤ d.p ∧ d.p ≤ p + 300
abbrev dmR (d : DM) : AV := .ag [.p true (.sl false 1 d.T.length (BB d.T)), .p true (.sl false 3 d.S.length (SB d.S))]
abbrev dmH (nn : Bool) (n : Nat) (f : Nat → Int) (d : DM) : List (Nat × Ob) := [(0, RD nn n f d.p)]
theorem BB_set {T : List (List Blk)} {p : Nat} {X : List Blk} (h : p < T.length) (i c : Nat) : BB (T.set p X) i c = if i = p then .sl false 3 X.length (SB X) else BB T i c := by
  simp only [BB]
  rw [getD_setL h]
  by_cases e : i = p
  · subst e; simp
  · have e' : ¬ p = i := fun h => e h.symm
    simp only [e, e', if_false]
theorem BB_tail {T : List (List Blk)} (i c : Nat) : BB T.tail i c = BB T (i + 1) c := by
  cases T with
  | nil => simp [BB]
  | cons x t => simp [BB]
theorem flat_set {T : List (List Blk)} {p : Nat} {X : List Blk} (h : p < T.length) : (T.set p X).flatten.length ≤ X.length + T.flatten.length := by
  have h1 := (set_flat (X := X) h).length_eq
  have h2 := (get_flat h).length_eq
  rw [List.length_append] at h1 h2
  omega
theorem flat_tail (T : List (List Blk)) : T.tail.flatten.length ≤ T.flatten.length := by
  cases T with
  | nil => simp
  | cons x t => simp only [List.tail_cons, List.flatten_cons, List.length_append]; omega
def st_dMC (nn : Bool) (n : Nat) (f : Nat → Int) (q : Nat) (T : List (List Blk)) (S : List Blk) : St := ⟨[(0, .adr 100000 0), (4, .adr 4 0), (8, .adr 8 0)], [(100000, RD nn n f q), (4, nilB2), (8, .box [.p true (.sl false 1 T.length (BB T)), .own 2035]), (2035, .row .u false 3 S.length (SB S) [])]⟩
def r_dMC (nn : Bool) (n : Nat) (f : Nat → Int) (p0 q : Nat) (T : List (List Blk)) (S : List Blk) := (G0, res131, [(0, RD nn n f p0)], [Item.ir ir131_C1, Item.bend 2, Item.ir ir131_D1], st_dMC nn n f q T S)
theorem evr_dMC : ∀ (nn : Bool) (n : Nat) (f : Nat → Int) (p0 q : Nat) (T : List (List Blk)) (S : List Blk), ev G0 res131 [((0 : Nat), RD nn n f p0)] (3000 : Nat) Or.nil [Item.ir ir131_C1, Item.bend (2 : Nat), Item.ir ir131_D1] (st_dMC nn n f q T S) = VC.need ((0 : Int) ≤ (1 : Int) ∧ (1 : Int) ≤ (↑T.length : Int) ∧ (↑T.length : Int) ≤ (↑T.length : Int)) (VC.done (St.mk [((0 : Nat), AV.adr (100000 : Nat) (0 : Nat)), ((4 : Nat), AV.adr (4 : Nat) (0 : Nat)), ((8 : Nat), AV.adr (8 : Nat) (0 : Nat))] [((100000 : Nat), Ob.box [AV.p false (PV.sl nn (1 : Nat) n (PB f)), AV.p true (PV.v (Value.int IntKind.i64 (↑q : Int)))]), ((4 : Nat), Ob.box [AV.p true (PV.sl false (1 : Nat) ((↑T.length : Int) - (1 : Int)).toNat fun (i j : Nat) => BB T (i + Int.toNat (1 : Int)) j), AV.own (2035 : Nat)]), ((8 : Nat), Ob.box [AV.p true (PV.sl false (1 : Nat) ((↑T.length : Int) - (1 : Int)).toNat fun (i j : Nat) => BB T (i + Int.toNat (1 : Int)) j), AV.own (2035 : Nat)]), ((2035 : Nat), Ob.row Mode.u false (3 : Nat) S.length (SB S) [])])) := by intros; kernel_rfl
theorem c_dM (nn : Bool) (n : Nat) (f : Nat → Int) (p : Nat) (m : Int) (hb : Bytes f) (hp : p ≤ 1000000) : PSome Tryd.prog G0 131 [.adr 0 0, AI m] [(0, RD nn n f p)] DM (DmOk p) dmR (dmH nn n f) := by
  refine PCall.by chk131 rfl (ev_dM nn n f p m) ?_
  refine loop_by (st_dM nn n f p m) (fun k => k ≤ 8) (fun k => 8 - k) 0 [] [] [] (by omega) ?_ (evr_dM nn n f p m) fun k hk => ?_
  · simp [st_dM, hbs, St.lowers, St.lower, stLe, leEnv, leObs, obLe, injB, pinC, AV.leC, AV.leCs, PV.leC, PV.Le_v, St.get, St.obj, look, rho, isNew, keptC, renH, Mode.ok, Mode.isZ, PV.isVal, PV.isNilSl, List.all_nil, List.all_cons, List.any_nil, List.any_cons, List.map_nil, List.map_cons, PV.Le_self]
  · have ek : IntKind.i64.wrap ((k : Int) + 1) = ((k + 1 : Nat) : Int) := wrap_in (by omega) (by omega)
    have r1 := pick_rng (n := n) (p := p + 2 * k) (m := 256) hb (by omega) (by omega)
    have ew : IntKind.i64.wrap (pickV n f (p + 2 * k) 256 - 100) = vM n f p k := wrap_in (by omega) (by omega)
    have el : pickV n f (p + 2 * k + 1) 4 = lM n f p k := rfl
    simp only [VC.holds_split, VC.holds_need, VC.holds_doneP, VC.holds_done, VC.holds_either, VC.holds_call, VC.holds_callE, VC.holds_lend, VC.holds_stop, VC.holds_fail, decide_eq_true_eq, decide_eq_false_iff_not, ew, el]
    refine ⟨fun h0 => ⟨c_pick _ _ _ _ _ hb (by omega), ⟨⟨by omega, by omega⟩, ?_⟩, c_pick _ _ _ _ _ hb (by omega), ⟨⟨by omega, by omega⟩, ?_⟩, Again.mk (k + 1) [] [(12, 23), (13, 28)] [] (by omega) (by omega) ?_⟩, fun h0 => ?_⟩
    · intro i j hi hj
      obtain rfl : i = 0 := by omega
      obtain rfl : j = 0 := by omega
      rfl
    · intro i j hi hj
      obtain rfl : i = 0 := by omega
      obtain rfl : j = 0 := by omega
      rfl
    · simp only [st_dM]
      generalize vM n f p = V at *
      generalize lM n f p = L at *
      simp [hbs, St.lowers, St.lower, stLe, leEnv, leObs, obLe, injB, pinC, AV.leC, AV.leCs, PV.leC, PV.Le_v, St.get, St.obj, look, rho, isNew, keptC, renH, Mode.ok, Mode.isZ, PV.isVal, PV.isNilSl, List.all_nil, List.all_cons, List.any_nil, List.any_cons, List.map_nil, List.map_cons, PV.Le_self, ek]
      refine ⟨by omega, fun i hi => ?_, fun i hi => ?_⟩
      · by_cases h : i < k
        · simp only [h, if_true]; exact .refl _
        · obtain rfl : i = k := by omega
          simp [setG, cellSet]; exact .refl _
      · by_cases h : i < k
        · simp only [h, if_true]; exact .refl _
        · obtain rfl : i = k := by omega
          simp [setG, cellSet]; exact .refl _
    · have hk8 : k = 8 := by omega
      have hv := memB_blks (v := vM n f p) (l := lM n f p) (fun i hi => vM_ok hb (by omega) hi) (fun i hi => lM_ok hb (by omega) hi)
      have hL := blks_len (vM n f p) (lM n f p) 8
      refine ⟨c_mo8 _ _ _ hk8 (fun i hi => vM_ok hb (by omega) hi) (fun i hi => lM_ok hb (by omega) hi), c_dU0 nn n f (p + 2 * k) hb (by omega), fun x hx => ⟨?_, ?_⟩⟩
      · exact c_spR7 _ _ (by omega)
      · obtain ⟨U, q⟩ := x
        obtain ⟨_, x1, x2⟩ := hx
        obtain ⟨x2, x3⟩ := x2 (by omega)
        simp only [] at x1 x2 x3 ⊢
        have ha := rAll_t hv (by omega) x3
        obtain ⟨e1, e2, _⟩ := r_yes ha
        simp only [rAll, Bool.and_eq_true, allB_iff] at ha
        obtain ⟨b1, b2⟩ := rM_bound hv (k := U.length) ha.2
        rw [← e1] at b1
        rw [← e1, ← e2] at b2
        generalize rT T7 (blks (vM n f p) (lM n f p) 8) U = T at *
        generalize rS T7 (blks (vM n f p) (lM n f p) 8) U = S at *
        refine ⟨c_odS nn n f q m hb (by omega), fun y hy => ?_⟩
        obtain ⟨o, z⟩ := y
        simp only [] at hy ⊢
        have okD : ∀ d : DM, d.T.length ≤ 1000 → d.S.length + d.T.flatten.length ≤ 5000 → d.p ≤ z + 2 → z ≤ d.p → DmOk p d := fun d h1 h2 h3 h4 => ⟨h1, h2, by omega⟩
        refine ⟨fun h1 => ⟨c_pick _ _ _ _ _ hb (by omega), fun h2 => ?_, fun h2 => ⟨fun h3 => ⟨c_pick _ _ _ _ _ hb (by omega), ⟨⟨by omega, by omega⟩, ?_⟩, ?_⟩, fun h3 => ⟨fun h4 => ⟨c_pick _ _ _ _ _ hb (by omega), ?_⟩, fun h4 => ⟨fun h5 => ⟨by omega, by omega, ?_⟩, fun h5 => ?_⟩⟩⟩⟩, fun h1 => ?_⟩
        · refine Go.Gw.M.by [(1035, .f)] [] [] ?_ (evr_dMC nn n f p (z + 1) T S) ?_
          · simp [st_dMC, hbs, St.lowers, St.lower, stLe, leEnv, leObs, obLe, injB, pinC, AV.leC, AV.leCs, PV.leC, PV.Le_v, St.get, St.obj, look, rho, isNew, keptC, renH, Mode.ok, Mode.isZ, PV.isVal, PV.isNilSl, List.all_nil, List.all_cons, List.any_nil, List.any_cons, List.map_nil, List.map_cons, PV.Le_self, Mode.low, St.setOb, ins]
          · simp only [VC.holds_split, VC.holds_need, VC.holds_doneP, VC.holds_done, VC.holds_either, VC.holds_call, VC.holds_callE, VC.holds_lend, VC.holds_stop, VC.holds_fail, decide_eq_true_eq, decide_eq_false_iff_not]
            refine ⟨⟨by omega, by omega, by omega⟩, ResOk.mk [(2035, .f)] [(0, 100000)] [] (dmR ⟨T.tail, S, z + 1⟩) (dmH nn n f ⟨T.tail, S, z + 1⟩) ?_ ⟨_, okD ⟨T.tail, S, z + 1⟩ (by simp; omega) (by have := flat_tail T; simp only []; omega) (by simp only []; omega) (by simp only []; omega), rfl, rfl⟩⟩
            have e : T.tail.length = ((T.length : Int) - 1).toNat := by simp only [List.length_tail]; omega
            simp only [dmR, dmH, e]
            have g : ∀ i c, BB T.tail i c = BB T (i + 1) c := BB_tail
            generalize BB T.tail = G at *
            generalize BB T = G' at *
            simp [doneC, resOf, resAV, tup, pinR, PV.Le_self, hbs, St.lowers, St.lower, stLe, leEnv, leObs, obLe, injB, pinC, AV.leC, AV.leCs, PV.leC, PV.Le_v, St.get, St.obj, look, rho, isNew, keptC, renH, Mode.ok, Mode.isZ, PV.isVal, PV.isNilSl, List.all_nil, List.all_cons, List.any_nil, List.any_cons, List.map_nil, List.map_cons, res131, Mode.low, St.setOb, ins]
            exact fun i _ => by rw [g]; exact .refl _
        · intro i j hi hj
          obtain rfl : i = 0 := by omega
          match j, hj with
          | 0, _ => rfl
          | 1, _ => rfl
          | 2, _ => rfl
        · refine ResOk.mk [(1035, .f), (60, .f)] [(0, 100000)] [] (dmR ⟨T, S ++ [⟨pickV n f (z + 1) 9, 0, 0⟩], z + 2⟩) (dmH nn n f ⟨T, S ++ [⟨pickV n f (z + 1) 9, 0, 0⟩], z + 2⟩) ?_ ⟨_, okD ⟨T, S ++ [⟨pickV n f (z + 1) 9, 0, 0⟩], z + 2⟩ (by simp only []; omega) (by simp only [List.length_append, List.length_singleton]; omega) (by simp only []; omega) (by simp only []; omega), rfl, rfl⟩
          generalize pickV n f (z + 1) 9 = X at *
          have key := fun i j hi hj => SB_app1 (S := S) (x := ⟨X, 0, 0⟩) (F := setG [(0, 0, .v (.int .i64 X)), (0, 1, .v (.int .i64 0)), (0, 2, .v (.int .i64 0))] fun _ j => .v ([Value.int IntKind.i64 0, Value.int IntKind.i64 0, Value.int IntKind.i64 0].getD j undef)) (fun j hj => by
            match j, hj with
            | 0, _ => rfl
            | 1, _ => rfl
            | 2, _ => rfl) (i := i) (j := j) hi hj
          have e : (S ++ [(⟨X, 0, 0⟩ : Blk)]).length = S.length + 1 := by simp
          simp only [dmR, dmH, e]
          generalize SB (S ++ [(⟨X, 0, 0⟩ : Blk)]) = G at *
          generalize SB S = G' at *
          generalize BB T = GT at *
          simp [doneC, resOf, resAV, tup, pinR, PV.Le_self, hbs, St.lowers, St.lower, stLe, leEnv, leObs, obLe, injB, pinC, AV.leC, AV.leCs, PV.leC, PV.Le_v, St.get, St.obj, look, rho, isNew, keptC, renH, Mode.ok, Mode.isZ, PV.isVal, PV.isNilSl, List.all_nil, List.all_cons, List.any_nil, List.any_cons, List.map_nil, List.map_cons, res131, Mode.low, St.setOb, ins]
          exact ⟨key, by omega⟩
        · have r7 := pick_rng (n := n) (p := z + 1) (m := 7) hb (by omega) (by omega)
          generalize pickV n f (z + 1) 7 = Y at *
          have hY : Y.toNat < T.length := by omega
          have hf : (T.set Y.toNat [b0, b0, b0]).flatten.length ≤ 3 + T.flatten.length := flat_set hY
          have hset := BB_set (X := [b0, b0, b0]) hY
          refine ⟨⟨by omega, by omega⟩, by omega, ResOk.mk [(1035, .f), (2035, .f)] [(0, 100000)] [] (dmR ⟨T.set Y.toNat [b0, b0, b0], S, z + 2⟩) (dmH nn n f ⟨T.set Y.toNat [b0, b0, b0], S, z + 2⟩) ?_ ⟨_, okD ⟨T.set Y.toNat [b0, b0, b0], S, z + 2⟩ (by simp; omega) (by simp only []; omega) (by simp only []; omega) (by simp only []; omega), rfl, rfl⟩⟩
          have e : (T.set Y.toNat [b0, b0, b0]).length = T.length := by simp
          simp only [dmR, dmH, e]
          generalize BB (T.set Y.toNat [b0, b0, b0]) = G at *
          generalize BB T = G' at *
          simp [doneC, resOf, resAV, tup, pinR, PV.Le_self, hbs, St.lowers, St.lower, stLe, leEnv, leObs, obLe, injB, pinC, AV.leC, AV.leCs, PV.leC, PV.Le_v, St.get, St.obj, look, rho, isNew, keptC, renH, Mode.ok, Mode.isZ, PV.isVal, PV.isNilSl, List.all_nil, List.all_cons, List.any_nil, List.any_cons, List.map_nil, List.map_cons, res131, Mode.low, St.setOb, ins]
          refine ⟨fun i hi => ?_, by omega⟩
          rw [hset]
          by_cases e2 : i = Y.toNat
          · simp only [e2, if_true, setG, cellSet, and_self]
            refine .sl _ _ (fun e => (by cases e)) 3 _ _ _ _ rfl fun j l hj hl => ?_
            match j, hj, l, hl with
            | 0, _, 0, _ => exact .refl _
            | 0, _, 1, _ => exact .refl _
            | 0, _, 2, _ => exact .refl _
            | 1, _, 0, _ => exact .refl _
            | 1, _, 1, _ => exact .refl _
            | 1, _, 2, _ => exact .refl _
            | 2, _, 0, _ => exact .refl _
            | 2, _, 1, _ => exact .refl _
            | 2, _, 2, _ => exact .refl _
          · simp only [e2, if_false, setG, cellSet, and_false]
            exact .refl _
        · have hY : 3 < T.length := by omega
          have hf : (T.set 3 [(⟨0, 0, 2⟩ : Blk)]).flatten.length ≤ 1 + T.flatten.length := flat_set hY
          have hset := BB_set (X := [⟨0, 0, 2⟩]) hY
          refine ResOk.mk [(1035, .f), (2035, .f)] [(0, 100000)] [] (dmR ⟨T.set 3 [⟨0, 0, 2⟩], S, z + 1⟩) (dmH nn n f ⟨T.set 3 [⟨0, 0, 2⟩], S, z + 1⟩) ?_ ⟨_, okD ⟨T.set 3 [⟨0, 0, 2⟩], S, z + 1⟩ (by simp; omega) (by simp only []; omega) (by simp only []; omega) (by simp only []; omega), rfl, rfl⟩
          have e : (T.set 3 [(⟨0, 0, 2⟩ : Blk)]).length = T.length := by simp
          simp only [dmR, dmH, e]
          generalize BB (T.set 3 [⟨0, 0, 2⟩]) = G at *
          generalize BB T = G' at *
          simp [doneC, resOf, resAV, tup, pinR, PV.Le_self, hbs, St.lowers, St.lower, stLe, leEnv, leObs, obLe, injB, pinC, AV.leC, AV.leCs, PV.leC, PV.Le_v, St.get, St.obj, look, rho, isNew, keptC, renH, Mode.ok, Mode.isZ, PV.isVal, PV.isNilSl, List.all_nil, List.all_cons, List.any_nil, List.any_cons, List.map_nil, List.map_cons, res131, Mode.low, St.setOb, ins]
          intro i hi
          rw [hset]
          by_cases e2 : i = 3
          · simp only [e2, if_true, setG, cellSet, and_self]
            refine .sl _ _ (fun e => (by cases e)) 3 _ _ _ _ rfl fun j l hj hl => ?_
            match j, hj, l, hl with
            | 0, _, 0, _ => exact .refl _
            | 0, _, 1, _ => exact .refl _
            | 0, _, 2, _ => exact .refl _
          · simp only [e2, if_false, setG, cellSet, and_false]
            exact .refl _
        · refine ResOk.mk [] [(0, 100000)] [] (dmR ⟨[], [], z + 1⟩) (dmH nn n f ⟨[], [], z + 1⟩) ?_ ⟨_, okD ⟨[], [], z + 1⟩ (by simp) (by simp) (by simp only []; omega) (by simp only []; omega), rfl, rfl⟩
          simp [doneC, resOf, resAV, tup, pinR, PV.Le_self, hbs, St.lowers, St.lower, stLe, leEnv, leObs, obLe, injB, pinC, AV.leC, AV.leCs, PV.leC, PV.Le_v, St.get, St.obj, look, rho, isNew, keptC, renH, Mode.ok, Mode.isZ, PV.isVal, PV.isNilSl, List.all_nil, List.all_cons, List.any_nil, List.any_cons, List.map_nil, List.map_cons, res131, Mode.low, St.setOb, ins]

        · refine ResOk.mk [(1035, .f), (2035, .f)] [(0, 100000)] [] (dmR ⟨T, S, z⟩) (dmH nn n f ⟨T, S, z⟩) ?_ ⟨_, okD ⟨T, S, z⟩ (by simp only []; omega) (by simp only []; omega) (by simp only []; omega) (by simp only []; omega), rfl, rfl⟩
          simp [doneC, resOf, resAV, tup, pinR, PV.Le_self, hbs, St.lowers, St.lower, stLe, leEnv, leObs, obLe, injB, pinC, AV.leC, AV.leCs, PV.leC, PV.Le_v, St.get, St.obj, look, rho, isNew, keptC, renH, Mode.ok, Mode.isZ, PV.isVal, PV.isNilSl, List.all_nil, List.all_cons, List.any_nil, List.any_cons, List.map_nil, List.map_cons, res131, Mode.low, St.setOb, ins]
/-! ### the law's memory and uses -/
theorem c_dM12 (nn : Bool) (n : Nat) (f : Nat → Int) (p : Nat) (hb : Bytes f) (hp : p ≤ 1000000) : PSome Tryd.prog G0 131 [.adr 0 0, AI 12] [(0, RD nn n f p)] DM (DmOk p) dmR (dmH nn n f) := c_dM nn n f p 12 hb hp
def in_dMR (nn : Bool) (n : Nat) (f : Nat → Int) := (G0, res57, ([] : List (Nat × Ob)), [Item.ir ir57], start [.p false (.sl nn 1 n (PB f))] [])
theorem ev_dMR : ∀ (nn : Bool) (n : Nat) (f : Nat → Int), ev G0 res57 [] (3000 : Nat) (Or.call [] (AV.adr (0 : Nat) (0 : Nat)) [((0 : Nat), RD nn (openN n) f (0 : Nat))] (Or.callE [(1007 : Nat)] DM (DmOk (0 : Nat)) dmR (dmH nn (openN n) f) fun (x : DM) => Or.callE [(1007 : Nat)] (Bool × Nat) (fun (y : Bool × Nat) => x.p ≤ y.snd ∧ y.snd ≤ x.p + (1 : Nat) ∧ ((24 : Int) ≤ (0 : Int) → y.fst = false)) (fun (y : Bool × Nat) => AB y.fst) (fun (y : Bool × Nat) => [((0 : Nat), RD nn (openN n) f y.snd)]) fun (y : Bool × Nat) => Or.nil.split (Or.call [(1007 : Nat)] (AV.own (1 : Nat)) [((0 : Nat), RD nn (openN n) f (dUp (openN n) f y.2 (12 : Int))), ((1 : Nat), Ob.row Mode.u false (4 : Nat) (dUs (openN n) f y.2 (12 : Int)).length (UB (dUs (openN n) f y.2 (12 : Int))) [])] Or.nil))) [Item.ir ir57] (start [AV.p false (PV.sl nn (1 : Nat) n (PB f))] []) = VC.call (85 : Nat) [AV.p false (PV.sl nn (1 : Nat) n (PB f))] [] (AV.adr (0 : Nat) (0 : Nat)) [((0 : Nat), RD nn (openN n) f (0 : Nat))] (VC.callE DM (131 : Nat) [AV.adr (0 : Nat) (0 : Nat), AV.p true (PV.v (Value.int IntKind.i64 (12 : Int)))] [((0 : Nat), Ob.box [AV.p false (PV.sl nn (1 : Nat) (openN n) (PB f)), AV.p true (PV.v (Value.int IntKind.i64 (↑(0 : Nat) : Int)))])] (DmOk (0 : Nat)) dmR (dmH nn (openN n) f) fun (x : DM) => VC.callE (Bool × Nat) (106 : Nat) [AV.adr (0 : Nat) (0 : Nat), AV.p true (PV.v (Value.int IntKind.i64 (24 : Int)))] [((0 : Nat), Ob.box [AV.p false (PV.sl nn (1 : Nat) (openN n) (PB f)), AV.p true (PV.v (Value.int IntKind.i64 (↑x.p : Int)))])] (fun (y : Bool × Nat) => x.p ≤ y.snd ∧ y.snd ≤ x.p + (1 : Nat) ∧ ((24 : Int) ≤ (0 : Int) → y.fst = false)) (fun (y : Bool × Nat) => AB y.fst) (fun (y : Bool × Nat) => [((0 : Nat), RD nn (openN n) f y.snd)]) fun (y : Bool × Nat) => VC.split y.1 (VC.need ((0 : Int) ≤ (41 : Int) ∧ (41 : Int) ≤ (41 : Int) ∧ (↑(32 : Nat) : Int) * (41 : Int) ≤ (281474976710656 : Int) ∧ (41 : Int) ≤ (9223372036854775807 : Int)) (VC.done (St.mk [((0 : Nat), AV.p false (PV.sl nn (1 : Nat) n (PB f))), ((2 : Nat), AV.adr (2 : Nat) (0 : Nat)), ((3 : Nat), AV.own (13 : Nat)), ((4 : Nat), AV.adr (1007 : Nat) (0 : Nat)), ((5 : Nat), AV.adr (5 : Nat) (0 : Nat)), ((11 : Nat), AV.p true (PV.v (Value.bool y.1)))] [((2 : Nat), Ob.box [AV.p true (PV.sl false (1 : Nat) x.T.length (BB x.T)), AV.p true (PV.sl false (3 : Nat) x.S.length (SB x.S))]), ((1007 : Nat), Ob.box [AV.p false (PV.sl nn (1 : Nat) (openN n) (PB f)), AV.p true (PV.v (Value.int IntKind.i64 (↑y.2 : Int)))]), ((5 : Nat), Ob.box [AV.p true (PV.sl false (1 : Nat) x.T.length (BB x.T)), AV.p true (PV.sl false (3 : Nat) x.S.length (SB x.S))]), ((13 : Nat), Ob.row Mode.u true (4 : Nat) (41 : Nat) (fun (x_1 j : Nat) => PV.v ([Value.int IntKind.i64 (0 : Int), Value.bool false, Value.int IntKind.i64 (0 : Int), Value.int IntKind.i64 (0 : Int)].getD j undef)) [])]))) (VC.call (132 : Nat) [AV.adr (0 : Nat) (0 : Nat), AV.p true (PV.v (Value.int IntKind.i64 (12 : Int)))] [((0 : Nat), Ob.box [AV.p false (PV.sl nn (1 : Nat) (openN n) (PB f)), AV.p true (PV.v (Value.int IntKind.i64 (↑y.2 : Int)))])] (AV.own (1 : Nat)) [((0 : Nat), RD nn (openN n) f (dUp (openN n) f y.2 (12 : Int))), ((1 : Nat), Ob.row Mode.u false (4 : Nat) (dUs (openN n) f y.2 (12 : Int)).length (UB (dUs (openN n) f y.2 (12 : Int))) [])] (VC.done (St.mk [((0 : Nat), AV.p false (PV.sl nn (1 : Nat) n (PB f))), ((2 : Nat), AV.adr (2 : Nat) (0 : Nat)), ((3 : Nat), AV.own (1016 : Nat)), ((4 : Nat), AV.adr (1007 : Nat) (0 : Nat)), ((5 : Nat), AV.adr (5 : Nat) (0 : Nat)), ((11 : Nat), AV.p true (PV.v (Value.bool y.1)))] [((2 : Nat), Ob.box [AV.p true (PV.sl false (1 : Nat) x.T.length (BB x.T)), AV.p true (PV.sl false (3 : Nat) x.S.length (SB x.S))]), ((1007 : Nat), Ob.box [AV.p false (PV.sl nn (1 : Nat) (openN n) (PB f)), AV.p true (PV.v (Value.int IntKind.i64 (↑(dUp (openN n) f y.2 (12 : Int)) : Int)))]), ((5 : Nat), Ob.box [AV.p true (PV.sl false (1 : Nat) x.T.length (BB x.T)), AV.p true (PV.sl false (3 : Nat) x.S.length (SB x.S))]), ((1016 : Nat), Ob.row Mode.u false (4 : Nat) (dUs (openN n) f y.2 (12 : Int)).length (UB (dUs (openN n) f y.2 (12 : Int))) [])])))) := by intros; kernel_rfl
structure DP where
  T : List (List Blk)
  S : List Blk
  U : List Us
structure DpOk (d : DP) : Prop where
  hT : d.T.length ≤ 1000
  hS : d.S.length + d.T.flatten.length ≤ 5000
  hU : d.U.length ≤ 50
abbrev dpR (d : DP) : AV := .tp [.ag [.p true (.sl false 1 d.T.length (BB d.T)), .p true (.sl false 3 d.S.length (SB d.S))], .p true (.sl false 4 d.U.length (UB d.U))]
theorem rep41 (i : Nat) : (List.replicate 41 u0).getD i u0 = u0 := by
  rw [List.getD_eq_getElem?_getD, List.getElem?_replicate]
  split <;> rfl
theorem c_dMR (nn : Bool) (n : Nat) (f : Nat → Int) (hb : Bytes f) : PSome Tryd.prog G0 57 [.p false (.sl nn 1 n (PB f))] [] DP DpOk dpR (fun _ => []) := by
  refine PCall.by chk57 rfl (ev_dMR nn n f) ?_
  simp only [VC.holds_split, VC.holds_need, VC.holds_doneP, VC.holds_done, VC.holds_either, VC.holds_call, VC.holds_callE, VC.holds_lend, VC.holds_stop, VC.holds_fail, decide_eq_true_eq, decide_eq_false_iff_not]
  refine ⟨c_open _ _ _, c_dM _ _ _ _ _ hb (by omega), ?_⟩
  rintro ⟨T, S, q⟩ hd
  have hdp := hd.hp
  simp only [] at hdp ⊢
  refine ⟨c_odS _ _ _ _ _ hb (by omega), ?_⟩
  rintro ⟨o, z⟩ hy
  simp only [] at hy ⊢
  refine ⟨fun h => ⟨by omega, ?_⟩, fun h => ⟨c_dUD _ _ _ _ _ hb (by omega), ?_⟩⟩
  · refine ResOk.mk [(13, .f)] [] [] (dpR ⟨T, S, List.replicate 41 u0⟩) [] ?_ ⟨⟨T, S, List.replicate 41 u0⟩, ⟨hd.hT, hd.hS, by simp⟩, rfl, rfl⟩
    have e : (List.replicate 41 u0).length = 41 := by simp
    have e2 : UB (List.replicate 41 u0) = fun _ c => u0.col c := by
      funext i c
      simp only [UB, rep41]
    simp only [dpR, e, e2]
    generalize BB T = GT at *
    generalize SB S = GS at *
    simp [doneC, resOf, resAV, tup, pinR, PV.Le_self, hbs, St.lowers, St.lower, stLe, leEnv, leObs, obLe, injB, pinC, AV.leC, AV.leCs, PV.leC, PV.Le_v, St.get, St.obj, look, rho, isNew, keptC, renH, Mode.ok, Mode.isZ, PV.isVal, PV.isNilSl, List.all_nil, List.all_cons, List.any_nil, List.any_cons, List.map_nil, List.map_cons, res57, Mode.low, St.setOb, ins]
    intro i j hi hj
    match j, hj with
    | 0, _ => exact .refl _
    | 1, _ => exact .refl _
    | 2, _ => exact .refl _
    | 3, _ => exact .refl _
  · have hu := dU_ok (n := openN n) (f := f) (p := z) (m := 12) hb (by omega)
    generalize dUs (openN n) f z 12 = U at *
    generalize dUp (openN n) f z 12 = w at *
    refine ResOk.mk [(1016, .f)] [] [] (dpR ⟨T, S, U⟩) [] ?_ ⟨⟨T, S, U⟩, ⟨hd.hT, hd.hS, Nat.le_trans hu.hl (by decide)⟩, rfl, rfl⟩
    simp only [dpR]
    generalize BB T = GT at *
    generalize SB S = GS at *
    generalize UB U = GU at *
    simp [doneC, resOf, resAV, tup, pinR, PV.Le_self, hbs, St.lowers, St.lower, stLe, leEnv, leObs, obLe, injB, pinC, AV.leC, AV.leCs, PV.leC, PV.Le_v, St.get, St.obj, look, rho, isNew, keptC, renH, Mode.ok, Mode.isZ, PV.isVal, PV.isNilSl, List.all_nil, List.all_cons, List.any_nil, List.any_cons, List.map_nil, List.map_cons, res57, Mode.low, St.setOb, ins]
def in_dPF (nn : Bool) (n : Nat) (f : Nat → Int) := (G0, res14, ([] : List (Nat × Ob)), [Item.ir ir14], start [.p false (.sl nn 1 n (PB f))] [])
theorem ev_dPF : ∀ (nn : Bool) (n : Nat) (f : Nat → Int), ev G0 res14 [] (3000 : Nat) (Or.callE [] DP DpOk dpR (fun (x : DP) => []) fun (x : DP) => Or.nil) [Item.ir ir14] (start [AV.p false (PV.sl nn (1 : Nat) n (PB f))] []) = VC.callE DP (57 : Nat) [AV.p false (PV.sl nn (1 : Nat) n (PB f))] [] DpOk dpR (fun (x : DP) => []) fun (x : DP) => VC.done (St.mk [((0 : Nat), AV.p false (PV.sl nn (1 : Nat) n (PB f))), ((2 : Nat), AV.adr (2 : Nat) (0 : Nat)), ((3 : Nat), AV.p true (PV.sl false (4 : Nat) x.U.length (UB x.U)))] [((2 : Nat), Ob.box [AV.p true (PV.sl false (1 : Nat) x.T.length (BB x.T)), AV.p true (PV.sl false (3 : Nat) x.S.length (SB x.S))])]) := by intros; kernel_rfl
theorem c_dPF (nn : Bool) (n : Nat) (f : Nat → Int) (hb : Bytes f) : PSome Tryd.prog G0 14 [.p false (.sl nn 1 n (PB f))] [] DP DpOk dpR (fun _ => []) := by
  refine PCall.by chk14 rfl (ev_dPF nn n f) ?_
  simp only [VC.holds_split, VC.holds_need, VC.holds_doneP, VC.holds_done, VC.holds_either, VC.holds_call, VC.holds_callE, VC.holds_lend, VC.holds_stop, VC.holds_fail, decide_eq_true_eq, decide_eq_false_iff_not]
  refine ⟨c_dMR _ _ _ hb, fun d hd => ?_⟩
  obtain ⟨T, S, U⟩ := d
  refine ResOk.mk [] [] [] (dpR ⟨T, S, U⟩) [] ?_ ⟨⟨T, S, U⟩, hd, rfl, rfl⟩
  simp only [dpR]
  generalize BB T = GT at *
  generalize SB S = GS at *
  generalize UB U = GU at *
  simp [doneC, resOf, resAV, tup, pinR, PV.Le_self, hbs, St.lowers, St.lower, stLe, leEnv, leObs, obLe, injB, pinC, AV.leC, AV.leCs, PV.leC, PV.Le_v, St.get, St.obj, look, rho, isNew, keptC, renH, Mode.ok, Mode.isZ, PV.isVal, PV.isNilSl, List.all_nil, List.all_cons, List.any_nil, List.any_cons, List.map_nil, List.map_cons, res14, Mode.low, St.setOb, ins]
end Go.Gw
