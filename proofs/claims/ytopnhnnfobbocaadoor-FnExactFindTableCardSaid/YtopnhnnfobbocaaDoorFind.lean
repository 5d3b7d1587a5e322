/- Catalogs: the valid ones, and the table with a name; with no condition. -/
import Derived.Test.YtopnhnnfobbocaaDoorCatalog
import Derived.KernelRfl
namespace Go.Gw
open Go Go.Proofs
set_option linter.unusedSimpArgs false
set_option linter.unusedVariables false
set_option maxRecDepth 100000
def ir75_L1 : Ir :=
  (.seq
  (.reg [] [o 8 (.bin .lss (tt 7) (tt 6))])
  (.seq
  (.cond (tt 8)
   .skip
   (.exit 0))
  (.seq
  (.block 1
   (.seq
   (.reg [9, 10, 11] [o 9 (.mov (tt 7)),
     o 10 (.idx 3 (tt 5) (tt 7)),
     o 11 (.load true 3 (tt 10)),
     o 4 (.alloc [(.string ⟨#[]⟩), (.slice none 0 0), (.slice none 0 0)]),
     o 3 (.mov (tt 9)),
     on (.store 3 (tt 4) (tt 11))])
   (.seq
   (.reg [12, 13, 14, 15, 16, 17, 18, 19, 20, 21, 22, 23, 24, 25, 26, 27, 28] [o 12 (.fadr 0 (tt 4)),
     o 13 (.load false 1 (tt 12)),
     o 14 (.call 69 [(tt 13)]),
     o 15 (.un .not (tt 14)),
     o 16 (.mov (tt 15)),
     og 17 16 false (.mov (tt 0)),
     og 18 16 false (.fadr 0 (tt 4)),
     og 19 16 false (.load false 1 (tt 18)),
     og 20 16 false (.call 74 [(tt 17), (tt 19)]),
     og 21 16 false (.mov (tt 3)),
     og 22 16 false (.bin .neq (tt 20) (tt 21)),
     o 23 (.pick (tt 16) (cb true) (tt 22)),
     o 24 (.mov (tt 23)),
     og 25 24 false (.fadr 1 (tt 4)),
     og 26 24 false (.load true 2 (tt 25)),
     og 27 24 false (.call 37 [(tt 26)]),
     og 28 24 false (.un .not (tt 27)),
     o 29 (.pick (tt 24) (cb true) (tt 28))])
   (.cond (tt 29)
    (.seq
    (.reg [] [o 2 (.mov (cb false))])
    .ret)
    .skip))))
  (.reg [30] [o 30 (.bin .add (tt 7) (ci 1)),
    o 7 (.mov (tt 30))]))))
def ir75_T2 : Ir :=
  (.seq
  (.reg [31, 32, 33] [o 31 (.mov (tt 0)),
    o 32 (.len (tt 31)),
    o 33 (.bin .leq (tt 32) (ci 4)),
    o 2 (.mov (tt 33))])
  .ret)
def ir75 : Ir :=
  (.seq
  (.reg [] [o 2 (.mov (cb false))])
  (.seq
  (.seq
  (.reg [] [o 5 (.mov (tt 0)),
    o 6 (.len (tt 5)),
    o 7 (.mov (ci 0))])
  (.block 0
   (.loop ir75_L1)))
  ir75_T2))
def keep75 : List Nat := [0, 2, 3, 4, 5, 6, 7, 8, 29]
def res75 : List RI := [.tmp 2]
theorem chk75 : chk Tryd.prog 75 1 keep75 = some (ir75, res75) := by kernel_rfl
def ir71_L1 : Ir :=
  (.seq
  (.seq
  (.reg [27, 28] [o 27 (.mov (tt 4)),
    o 28 (.mov (tt 3)),
    o 29 (.bin .lss (tt 27) (tt 28))])
  (.cond (tt 29)
   .skip
   (.exit 2)))
  (.seq
  (.block 3
   (.seq
   (.dreg [32, 33, 34, 35, 36, 37, 38, 39, 40, 41] [0, 0, 3, 7, 15, 0, 0, 96, 224, 480, 1023] [(4, 1036), (9, 1041)] [o 32 (.mov (tt 0)),
     o 33 (.mov (tt 4)),
     o 34 (.idx 3 (tt 32) (tt 33)),
     o 35 (.fadr 0 (tt 34)),
     o 36 (.load false 1 (tt 35)),
     o 37 (.mov (tt 0)),
     o 38 (.mov (tt 3)),
     o 39 (.idx 3 (tt 37) (tt 38)),
     o 40 (.fadr 0 (tt 39)),
     o 41 (.load false 1 (tt 40)),
     o 42 (.bin .eql (tt 36) (tt 41))])
   (.cond (tt 42)
    (.seq
    (.reg [] [o 2 (.mov (cb false))])
    .ret)
    .skip)))
  (.reg [30, 31] [o 30 (.mov (tt 4)),
    o 31 (.bin .add (tt 30) (ci 1)),
    o 4 (.mov (tt 31))])))
def ir71_T2 : Ir :=
  (.reg [9, 10] [o 9 (.mov (tt 3)),
    o 10 (.bin .add (tt 9) (ci 1)),
    o 3 (.mov (tt 10))])
def ir71_L3 : Ir :=
  (.seq
  (.seq
  (.reg [5, 6, 7] [o 5 (.mov (tt 3)),
    o 6 (.mov (tt 0)),
    o 7 (.len (tt 6)),
    o 8 (.bin .lss (tt 5) (tt 7))])
  (.cond (tt 8)
   .skip
   (.exit 0)))
  (.seq
  (.block 1
   (.seq
   (.seq
   (.reg [11, 12, 13, 14, 15, 16, 17, 18, 19, 20, 21, 22, 23, 24, 25] [o 11 (.mov (tt 0)),
     o 12 (.mov (tt 3)),
     o 13 (.idx 3 (tt 11) (tt 12)),
     o 14 (.fadr 0 (tt 13)),
     o 15 (.load false 1 (tt 14)),
     o 16 (.call 139 [(tt 15)]),
     o 17 (.un .not (tt 16)),
     o 18 (.mov (tt 17)),
     og 19 18 false (.mov (tt 0)),
     og 20 18 false (.mov (tt 3)),
     og 21 18 false (.idx 3 (tt 19) (tt 20)),
     og 22 18 false (.fadr 1 (tt 21)),
     og 23 18 false (.load true 2 (tt 22)),
     og 24 18 false (.call 33 [(tt 23)]),
     og 25 18 false (.un .not (tt 24)),
     o 26 (.pick (tt 18) (cb true) (tt 25))])
   (.cond (tt 26)
    (.seq
    (.reg [] [o 2 (.mov (cb false))])
    .ret)
    .skip))
   (.seq
   (.reg [] [o 4 (.mov (ci 0))])
   (.block 2
    (.loop ir71_L1)))))
  ir71_T2))
def ir71_T4 : Ir :=
  (.seq
  (.reg [43, 44, 45] [o 43 (.mov (tt 0)),
    o 44 (.len (tt 43)),
    o 45 (.bin .leq (tt 44) (ci 4)),
    o 2 (.mov (tt 45))])
  .ret)
def ir71 : Ir :=
  (.seq
  (.reg [] [o 2 (.mov (cb false))])
  (.seq
  (.seq
  (.reg [] [o 3 (.mov (ci 0))])
  (.block 0
   (.loop ir71_L3)))
  ir71_T4))
def keep71 : List Nat := [0, 2, 3, 4, 8, 26, 29, 42]
def res71 : List RI := [.tmp 2]
theorem chk71 : chk Tryd.prog 71 1 keep71 = some (ir71, res71) := by kernel_rfl
def ir23 : Ir :=
  (.seq
  (.reg [] [o 4 (.alloc [(.slice none 0 0), (.slice none 0 0)]),
    o 5 (.mov (cb false))])
  (.seq
  (.reg [7, 8, 9] [o 7 (.mov (tt 0)),
    o 8 (.mov (tt 1)),
    o 9 (.call 74 [(tt 7), (tt 8)]),
    o 6 (.mov (tt 9))])
  (.seq
  (.seq
  (.reg [10, 11, 12, 13, 14, 15] [o 10 (.mov (tt 0)),
    o 11 (.call 75 [(tt 10)]),
    o 12 (.un .not (tt 11)),
    o 13 (.mov (tt 12)),
    og 14 13 false (.mov (tt 6)),
    og 15 13 false (.bin .lss (tt 14) (ci 0)),
    o 16 (.pick (tt 13) (cb true) (tt 15))])
  (.cond (tt 16)
   (.seq
   (.reg [17] [o 17 (.build [(.slice none 0 0), (.slice none 0 0)] []),
     on (.store 2 (tt 4) (tt 17)),
     o 5 (.mov (cb false))])
   .ret)
   .skip))
  (.seq
  (.reg [18, 19, 20, 21, 22, 23] [o 18 (.mov (tt 0)),
    o 19 (.mov (tt 6)),
    o 20 (.idx 3 (tt 18) (tt 19)),
    o 21 (.fadr 1 (tt 20)),
    o 22 (.load true 2 (tt 21)),
    o 23 (.call 76 [(tt 22)]),
    on (.store 2 (tt 4) (tt 23)),
    o 5 (.mov (cb true))])
  .ret))))
def keep23 : List Nat := [0, 1, 4, 5, 6, 16]
def res23 : List RI := [.cell true 2 4, .tmp 5]
theorem chk23 : chk Tryd.prog 23 2 keep23 = some (ir23, res23) := by kernel_rfl
def ir21_L1 : Ir :=
  (.seq
  (.seq
  (.reg [7, 8, 9, 10, 11, 12, 13] [o 7 (.mov (tt 6)),
    o 8 (.mov (tt 0)),
    o 9 (.len (tt 8)),
    o 10 (.bin .lss (tt 7) (tt 9)),
    o 11 (.mov (tt 10)),
    og 12 11 true (.mov (tt 0)),
    og 13 11 true (.call 71 [(tt 12)]),
    o 14 (.pick (tt 11) (tt 13) (cb false))])
  (.cond (tt 14)
   .skip
   (.exit 0)))
  (.seq
  (.block 1
   (.seq
   (.reg [17, 18, 19, 20, 21, 22] [o 17 (.mov (tt 0)),
     o 18 (.mov (tt 6)),
     o 19 (.idx 3 (tt 17) (tt 18)),
     o 20 (.fadr 0 (tt 19)),
     o 21 (.load false 1 (tt 20)),
     o 22 (.mov (tt 1)),
     o 23 (.bin .eql (tt 21) (tt 22))])
   (.cond (tt 23)
    (.seq
    (.reg [24, 25, 26, 27, 28, 29] [o 24 (.mov (tt 0)),
      o 25 (.mov (tt 6)),
      o 26 (.idx 3 (tt 24) (tt 25)),
      o 27 (.fadr 1 (tt 26)),
      o 28 (.load true 2 (tt 27)),
      o 29 (.call 72 [(tt 28)]),
      on (.store 2 (tt 4) (tt 29)),
      o 5 (.mov (cb true))])
    .ret)
    .skip)))
  (.reg [15, 16] [o 15 (.mov (tt 6)),
    o 16 (.bin .add (tt 15) (ci 1)),
    o 6 (.mov (tt 16))])))
def ir21_T2 : Ir :=
  (.seq
  (.reg [30] [o 30 (.build [(.slice none 0 0), (.slice none 0 0)] []),
    on (.store 2 (tt 4) (tt 30)),
    o 5 (.mov (cb false))])
  .ret)
def ir21 : Ir :=
  (.seq
  (.reg [] [o 4 (.alloc [(.slice none 0 0), (.slice none 0 0)]),
    o 5 (.mov (cb false))])
  (.seq
  (.seq
  (.reg [] [o 6 (.mov (ci 0))])
  (.block 0
   (.loop ir21_L1)))
  ir21_T2))
def keep21 : List Nat := [0, 1, 4, 5, 6, 14, 23]
def res21 : List RI := [.cell true 2 4, .tmp 5]
theorem chk21 : chk Tryd.prog 21 2 keep21 = some (ir21, res21) := by kernel_rfl
def ir4 : Ir :=
  (.seq
  (.reg [] [o 4 (.mov (cb false))])
  (.seq
  (.seq
  (.reg [16, 17] [o 16 (.mov (tt 1)),
    o 17 (.lenS (tt 16)),
    o 18 (.bin .gtr (tt 17) (ci 1048576))])
  (.cond (tt 18)
   (.seq
   (.reg [] [o 4 (.mov (cb true))])
   .ret)
   .skip))
  (.seq
  (.reg [] [o 5 (.mov (ci 1048576))])
  (.seq
  (.reg [19, 20, 21] [o 19 (.mov (tt 0)),
    o 20 (.mov (tt 5)),
    o 21 (.call 20 [(tt 19), (tt 20)]),
    o 5 (.mov (tt 21))])
  (.seq
  (.seq
  (.reg [22] [o 22 (.mov (tt 5)),
    o 23 (.bin .lss (tt 22) (ci 0))])
  (.cond (tt 23)
   (.seq
   (.reg [] [o 4 (.mov (cb true))])
   .ret)
   .skip))
  (.seq
  (.reg [25, 26, 27, 28, 24, 29, 30] [o 25 (.mov (tt 0)),
    o 26 (.call 22 [(tt 25)]),
    o 27 (.mov (tt 1)),
    o 28 (.call 21 [(tt 26), (tt 27)]),
    o 24 (.mov (tt 28)),
    o 29 (.ext (tt 24) 0),
    o 30 (.ext (tt 24) 1),
    o 6 (.alloc [(.slice none 0 0), (.slice none 0 0)]),
    on (.store 2 (tt 6) (tt 29)),
    o 7 (.mov (tt 30))])
  (.seq
  (.reg [31, 32] [o 31 (.mov (tt 0)),
    o 32 (.call 22 [(tt 31)]),
    o 8 (.mov (tt 32))])
  (.seq
  (.reg [34, 35, 36, 33, 37, 38] [o 34 (.mov (tt 8)),
    o 35 (.mov (tt 1)),
    o 36 (.call 23 [(tt 34), (tt 35)]),
    o 33 (.mov (tt 36)),
    o 37 (.ext (tt 33) 0),
    o 38 (.ext (tt 33) 1),
    o 9 (.alloc [(.slice none 0 0), (.slice none 0 0)]),
    on (.store 2 (tt 9) (tt 37)),
    o 10 (.mov (tt 38))])
  (.seq
  (.seq
  (.reg [39, 40, 41, 42, 43, 44, 45, 46] [o 39 (.load true 2 (tt 9)),
    o 40 (.load true 2 (tt 6)),
    o 41 (.call 24 [(tt 39), (tt 40)]),
    o 42 (.un .not (tt 41)),
    o 43 (.mov (tt 42)),
    og 44 43 false (.mov (tt 10)),
    og 45 43 false (.mov (tt 7)),
    og 46 43 false (.binB .neq (tt 44) (tt 45)),
    o 47 (.pick (tt 43) (cb true) (tt 46))])
  (.cond (tt 47)
   (.seq
   (.reg [] [o 4 (.mov (cb false))])
   .ret)
   .skip))
  (.seq
  (.seq
  (.reg [48, 49, 50, 51] [o 48 (.mov (tt 8)),
    o 49 (.mov (tt 0)),
    o 50 (.call 22 [(tt 49)]),
    o 51 (.call 25 [(tt 48), (tt 50)]),
    o 52 (.un .not (tt 51))])
  (.cond (tt 52)
   (.seq
   (.reg [] [o 4 (.mov (cb false))])
   .ret)
   .skip))
  (.seq
  (.reg [] [o 11 (.mov (ci 1))])
  (.seq
  (.reg [53, 54, 55] [o 53 (.mov (tt 8)),
    o 54 (.mov (tt 11)),
    o 55 (.call 26 [(tt 53), (tt 54)]),
    o 11 (.mov (tt 55))])
  (.seq
  (.seq
  (.reg [56, 57, 58, 59, 60, 61, 62, 63, 64, 65, 66, 67] [o 56 (.mov (tt 11)),
    o 57 (.bin .lss (tt 56) (ci 0)),
    o 58 (.mov (tt 57)),
    og 59 58 false (.load true 2 (tt 9)),
    og 60 58 false (.load true 2 (tt 6)),
    og 61 58 false (.call 24 [(tt 59), (tt 60)]),
    og 62 58 false (.un .not (tt 61)),
    o 63 (.pick (tt 58) (cb true) (tt 62)),
    o 64 (.mov (tt 63)),
    og 65 64 false (.mov (tt 10)),
    og 66 64 false (.mov (tt 7)),
    og 67 64 false (.binB .neq (tt 65) (tt 66)),
    o 68 (.pick (tt 64) (cb true) (tt 67))])
  (.cond (tt 68)
   (.seq
   (.reg [] [o 4 (.mov (cb false))])
   .ret)
   .skip))
  (.seq
  (.reg [] [o 12 (.mov (ci 1))])
  (.seq
  (.reg [69, 70, 71] [o 69 (.load true 2 (tt 9)),
    o 70 (.mov (tt 12)),
    o 71 (.call 27 [(tt 69), (tt 70)]),
    o 12 (.mov (tt 71))])
  (.seq
  (.reg [] [o 13 (.mov (ci 1))])
  (.seq
  (.reg [72, 73, 74] [o 72 (.load true 2 (tt 9)),
    o 73 (.mov (tt 13)),
    o 74 (.call 28 [(tt 72), (tt 73)]),
    o 13 (.mov (tt 74))])
  (.seq
  (.seq
  (.reg [75] [o 75 (.mov (tt 13)),
    o 76 (.bin .lss (tt 75) (ci 0))])
  (.cond (tt 76)
   (.seq
   (.reg [] [o 4 (.mov (cb false))])
   .ret)
   .skip))
  (.seq
  (.seq
  (.reg [77, 78] [o 77 (.mov (tt 13)),
    o 78 (.mov (tt 12)),
    o 79 (.bin .neq (tt 77) (tt 78))])
  (.cond (tt 79)
   (.seq
   (.reg [] [o 4 (.mov (cb false))])
   .ret)
   .skip))
  (.seq
  (.reg [81, 82, 83, 84, 80, 85, 86] [o 81 (.mov (tt 0)),
    o 82 (.call 22 [(tt 81)]),
    o 83 (.mov (tt 1)),
    o 84 (.call 23 [(tt 82), (tt 83)]),
    o 80 (.mov (tt 84)),
    o 85 (.ext (tt 80) 0),
    o 86 (.ext (tt 80) 1),
    o 14 (.alloc [(.slice none 0 0), (.slice none 0 0)]),
    on (.store 2 (tt 14) (tt 85)),
    o 15 (.mov (tt 86))])
  (.seq
  (.seq
  (.reg [87, 88, 89, 90, 91, 92, 93, 94] [o 87 (.load true 2 (tt 14)),
    o 88 (.load true 2 (tt 6)),
    o 89 (.call 24 [(tt 87), (tt 88)]),
    o 90 (.un .not (tt 89)),
    o 91 (.mov (tt 90)),
    og 92 91 false (.mov (tt 15)),
    og 93 91 false (.mov (tt 7)),
    og 94 91 false (.binB .neq (tt 92) (tt 93)),
    o 95 (.pick (tt 91) (cb true) (tt 94))])
  (.cond (tt 95)
   (.seq
   (.reg [] [o 4 (.mov (cb false))])
   .ret)
   .skip))
  (.seq
  (.reg [] [o 13 (.mov (ci 1))])
  (.seq
  (.reg [96, 97, 98] [o 96 (.load true 2 (tt 9)),
    o 97 (.mov (tt 13)),
    o 98 (.call 28 [(tt 96), (tt 97)]),
    o 13 (.mov (tt 98))])
  (.seq
  (.seq
  (.reg [99] [o 99 (.mov (tt 13)),
    o 100 (.bin .lss (tt 99) (ci 0))])
  (.cond (tt 100)
   (.seq
   (.reg [] [o 4 (.mov (cb false))])
   .ret)
   .skip))
  (.seq
  (.seq
  (.reg [101, 102] [o 101 (.mov (tt 13)),
    o 102 (.mov (tt 12)),
    o 103 (.bin .neq (tt 101) (tt 102))])
  (.cond (tt 103)
   (.seq
   (.reg [] [o 4 (.mov (cb false))])
   .ret)
   .skip))
  (.seq
  (.reg [] [o 4 (.mov (cb true))])
  .ret))))))))))))))))))))))))))
def keep4 : List Nat := [0, 1, 4, 5, 6, 7, 8, 9, 10, 11, 12, 13, 14, 15, 18, 23, 47, 52, 68, 76, 79, 95, 100, 103]
def res4 : List RI := [.tmp 4]
theorem chk4 : chk Tryd.prog 4 2 keep4 = some (ir4, res4) := by kernel_rfl

theorem c_tAt (nn : Bool) (N : Nat) (c : Ct) (x : ByteArray) (hN : N ≤ 1048576) : PRet Tryd.prog G0 74 [NL nn N c, AT x] (AI (atT c.nm x N)) := by
  refine PRet.by chk74 (ev_tAt nn N c x) ?_
  simp only [VC.holds_split, VC.holds_need, VC.holds_doneP, VC.holds_done, VC.holds_either, VC.holds_call, VC.holds_callE, VC.holds_lend, VC.holds_stop, VC.holds_fail, decide_eq_true_eq, decide_eq_false_iff_not]
  exact ⟨c_ixN _ _ _ _ hN, by simp⟩
def catE (c : Ct) (i : Nat) : Bool := nameB (c.nm i) && allB (fun j => !eqT (c.nm j) (c.nm i)) i && tableB (c.n i) (c.f i) (c.m i) (c.w i) (c.h i)
def catB (N : Nat) (c : Ct) : Bool := allB (catE c) N && decide (N ≤ 4)
structure CtOk (N : Nat) (c : Ct) : Prop where
  hN : N ≤ 1048576
  hs : ∀ i, i < N → (c.nm i).size ≤ 1048576
  hn : ∀ i, i < N → c.n i ≤ 1048576
  hf : ∀ i j, i < N → j < c.n i → (c.f i j).size ≤ 1048576
  hm : ∀ i, i < N → c.m i ≤ 1048576
  hw : ∀ i j, i < N → j < c.m i → c.w i j ≤ 1048576
def in_imCV (nn : Bool) (N : Nat) (c : Ct) := (G0, res75, ([] : List (Nat × Ob)), [Item.ir ir75], start [NL nn N c] [])
theorem ev_imCV : ∀ (nn : Bool) (N : Nat) (c : Ct),
  ev G0 res75 [] (3000 : Nat) Or.nil [Item.ir ir75] (start [NL nn N c] []) =
    VC.loop ir75_L1 [Item.bend (0 : Nat), Item.ir ir75_T2]
      (St.mk
        [((0 : Nat), AV.p false (PV.sl nn (3 : Nat) N (NR c))), ((2 : Nat), AV.p true (PV.v (Value.bool false))),
          ((5 : Nat), AV.p false (PV.sl nn (3 : Nat) N (NR c))),
          ((6 : Nat), AV.p true (PV.v (Value.int IntKind.i64 (↑N : Int)))),
          ((7 : Nat), AV.p true (PV.v (Value.int IntKind.i64 (0 : Int))))]
        []) := by
  intros; kernel_rfl
def st_imCV (nn : Bool) (N : Nat) (c : Ct) (k : Nat) : St := ⟨[(0, NL nn N c), (5, NL nn N c), (6, AI N), (7, AI k)], []⟩
def r_imCV (nn : Bool) (N : Nat) (c : Ct) (I : Nat → St → Prop) (k : Nat) := (G0, res75, ([] : List (Nat × Ob)), [Item.ir ir75_L1, .lend (I k), Item.bend 0, Item.ir ir75_T2], st_imCV nn N c k)
theorem evr_imCV : ∀ (nn : Bool) (N : Nat) (c : Ct) (I : Nat → St → Prop) (k : Nat),
  ev G0 res75 [] (3000 : Nat)
      ((Or.call [] (AB (nameB (c.nm (↑k : Int).toNat))) []
            (Or.nil.lit.lit.lit.lit.lit.lit.lit.lit.lit.lit.lit.lit.split
              (Or.call [] (AI (atT c.nm (c.nm (↑k : Int).toNat) N)) []
                      (Or.nil.lit.lit.lit.lit.lit.split
                              (Or.call []
                                    (AB
                                      (tableB (c.n (↑k : Int).toNat) (c.f (↑k : Int).toNat) (c.m (↑k : Int).toNat)
                                        (c.w (↑k : Int).toNat) (c.h (↑k : Int).toNat)))
                                    [] (Or.nil.split Or.nil).lit.lit).lit.lit).lit.lit.lit).lit.lit.lit)).split
        Or.nil)
      [Item.ir ir75_L1, Item.lend (I k), Item.bend (0 : Nat), Item.ir ir75_T2] (st_imCV nn N c k) =
    VC.split (decide ((↑k : Int) < (↑N : Int)))
      (VC.need ((0 : Int) ≤ (↑k : Int) ∧ (↑k : Int).toNat < N)
        (VC.call (69 : Nat) [AV.p true (PV.v (Value.string (c.nm (↑k : Int).toNat)))] []
          (AB (nameB (c.nm (↑k : Int).toNat))) []
          (VC.split (!nameB (c.nm (↑k : Int).toNat)) (VC.doneP (AV.p true (PV.v (Value.bool false))))
            (VC.call (74 : Nat)
              [AV.p false (PV.sl nn (3 : Nat) N (NR c)), AV.p true (PV.v (Value.string (c.nm (↑k : Int).toNat)))] []
              (AI (atT c.nm (c.nm (↑k : Int).toNat) N)) []
              (VC.split (atT c.nm (c.nm (↑k : Int).toNat) N != (↑k : Int))
                (VC.doneP (AV.p true (PV.v (Value.bool false))))
                (VC.call (37 : Nat)
                  [AV.ag
                      [AV.p false (PV.sl false (1 : Nat) (c.n (↑k : Int).toNat) (TR (c.f (↑k : Int).toNat))),
                        AV.p false
                          (PV.sl false (1 : Nat) (c.m (↑k : Int).toNat)
                            (RR (c.w (↑k : Int).toNat) (c.h (↑k : Int).toNat)))]]
                  []
                  (AB
                    (tableB (c.n (↑k : Int).toNat) (c.f (↑k : Int).toNat) (c.m (↑k : Int).toNat) (c.w (↑k : Int).toNat)
                      (c.h (↑k : Int).toNat)))
                  []
                  (VC.split
                    (!tableB (c.n (↑k : Int).toNat) (c.f (↑k : Int).toNat) (c.m (↑k : Int).toNat) (c.w (↑k : Int).toNat)
                        (c.h (↑k : Int).toNat))
                    (VC.doneP (AV.p true (PV.v (Value.bool false))))
                    (VC.lend (I k)
                      (St.mk
                        [((0 : Nat), AV.p false (PV.sl nn (3 : Nat) N (NR c))),
                          ((5 : Nat), AV.p false (PV.sl nn (3 : Nat) N (NR c))),
                          ((6 : Nat), AV.p true (PV.v (Value.int IntKind.i64 (↑N : Int)))),
                          ((7 : Nat),
                            AV.p true (PV.v (Value.int IntKind.i64 (IntKind.i64.wrap ((↑k : Int) + (1 : Int)))))),
                          ((8 : Nat), AV.p true (PV.v (Value.bool (decide ((↑k : Int) < (↑N : Int)))))),
                          ((4 : Nat), AV.adr (4 : Nat) (0 : Nat)),
                          ((3 : Nat), AV.p true (PV.v (Value.int IntKind.i64 (↑k : Int)))),
                          ((29 : Nat),
                            AV.p true
                              (PV.v
                                (Value.bool
                                  !tableB (c.n (↑k : Int).toNat) (c.f (↑k : Int).toNat) (c.m (↑k : Int).toNat)
                                      (c.w (↑k : Int).toNat) (c.h (↑k : Int).toNat))))]
                        [((4 : Nat),
                            Ob.box
                              [AV.p true (PV.v (Value.string (c.nm (↑k : Int).toNat))),
                                AV.p false (PV.sl false (1 : Nat) (c.n (↑k : Int).toNat) (TR (c.f (↑k : Int).toNat))),
                                AV.p false
                                  (PV.sl false (1 : Nat) (c.m (↑k : Int).toNat)
                                    (RR (c.w (↑k : Int).toNat) (c.h (↑k : Int).toNat)))])])))))))))
      (VC.doneP (AV.p true (PV.v (Value.bool (decide ((↑N : Int) ≤ (4 : Int))))))) := by
  intros; kernel_rfl
def in_spCV (nn : Bool) (N : Nat) (c : Ct) := (G0, res71, ([] : List (Nat × Ob)), [Item.ir ir71], start [NL nn N c] [])
theorem ev_spCV : ∀ (nn : Bool) (N : Nat) (c : Ct),
  ev G0 res71 [] (3000 : Nat) Or.nil [Item.ir ir71] (start [NL nn N c] []) =
    VC.loop ir71_L3 [Item.bend (0 : Nat), Item.ir ir71_T4]
      (St.mk
        [((0 : Nat), AV.p false (PV.sl nn (3 : Nat) N (NR c))), ((2 : Nat), AV.p true (PV.v (Value.bool false))),
          ((3 : Nat), AV.p true (PV.v (Value.int IntKind.i64 (0 : Int))))]
        []) := by
  intros; kernel_rfl
def st_spCV (nn : Bool) (N : Nat) (c : Ct) (k : Nat) : St := ⟨[(0, NL nn N c), (3, AI k)], []⟩
def r_spCV (nn : Bool) (N : Nat) (c : Ct) (I : Nat → St → Prop) (k : Nat) := (G0, res71, ([] : List (Nat × Ob)), [Item.ir ir71_L3, .lend (I k), Item.bend 0, Item.ir ir71_T4], st_spCV nn N c k)
theorem evr_spCV : ∀ (nn : Bool) (N : Nat) (c : Ct) (I : Nat → St → Prop) (k : Nat),
  ev G0 res71 [] (3000 : Nat)
      ((Or.call [] (AB (nameB (c.nm (↑k : Int).toNat))) []
            (Or.nil.lit.lit.lit.lit.lit.lit.lit.lit.split
              (Or.call []
                          (AB
                            (tableB (c.n (↑k : Int).toNat) (c.f (↑k : Int).toNat) (c.m (↑k : Int).toNat)
                              (c.w (↑k : Int).toNat) (c.h (↑k : Int).toNat)))
                          [] (Or.nil.split Or.nil).lit.lit).lit.lit.lit.lit.lit)).split
        Or.nil)
      [Item.ir ir71_L3, Item.lend (I k), Item.bend (0 : Nat), Item.ir ir71_T4] (st_spCV nn N c k) =
    VC.split (decide ((↑k : Int) < (↑N : Int)))
      (VC.need ((0 : Int) ≤ (↑k : Int) ∧ (↑k : Int).toNat < N)
        (VC.call (139 : Nat) [AV.p true (PV.v (Value.string (c.nm (↑k : Int).toNat)))] []
          (AB (nameB (c.nm (↑k : Int).toNat))) []
          (VC.split (!nameB (c.nm (↑k : Int).toNat)) (VC.doneP (AV.p true (PV.v (Value.bool false))))
            (VC.need ((0 : Int) ≤ (↑k : Int) ∧ (↑k : Int).toNat < N)
              (VC.call (33 : Nat)
                [AV.ag
                    [AV.p false (PV.sl false (1 : Nat) (c.n (↑k : Int).toNat) (TR (c.f (↑k : Int).toNat))),
                      AV.p false
                        (PV.sl false (1 : Nat) (c.m (↑k : Int).toNat)
                          (RR (c.w (↑k : Int).toNat) (c.h (↑k : Int).toNat)))]]
                []
                (AB
                  (tableB (c.n (↑k : Int).toNat) (c.f (↑k : Int).toNat) (c.m (↑k : Int).toNat) (c.w (↑k : Int).toNat)
                    (c.h (↑k : Int).toNat)))
                []
                (VC.split
                  (!tableB (c.n (↑k : Int).toNat) (c.f (↑k : Int).toNat) (c.m (↑k : Int).toNat) (c.w (↑k : Int).toNat)
                      (c.h (↑k : Int).toNat))
                  (VC.doneP (AV.p true (PV.v (Value.bool false))))
                  (VC.loop ir71_L1
                    [Item.bend (2 : Nat), Item.bend (1 : Nat), Item.ir ir71_T2, Item.lend (I k), Item.bend (0 : Nat),
                      Item.ir ir71_T4]
                    (St.mk
                      [((0 : Nat), AV.p false (PV.sl nn (3 : Nat) N (NR c))),
                        ((3 : Nat), AV.p true (PV.v (Value.int IntKind.i64 (↑k : Int)))),
                        ((8 : Nat), AV.p true (PV.v (Value.bool (decide ((↑k : Int) < (↑N : Int)))))),
                        ((26 : Nat),
                          AV.p true
                            (PV.v
                              (Value.bool
                                !tableB (c.n (↑k : Int).toNat) (c.f (↑k : Int).toNat) (c.m (↑k : Int).toNat)
                                    (c.w (↑k : Int).toNat) (c.h (↑k : Int).toNat)))),
                        ((4 : Nat), AV.p true (PV.v (Value.int IntKind.i64 (0 : Int))))]
                      []))))))))
      (VC.doneP (AV.p true (PV.v (Value.bool (decide ((↑N : Int) ≤ (4 : Int))))))) := by
  intros; kernel_rfl
def st_spCV2 (nn : Bool) (N : Nat) (c : Ct) (k j : Nat) : St := ⟨[(0, NL nn N c), (3, AI k), (4, AI j)], []⟩
def r_spCV2 (nn : Bool) (N : Nat) (c : Ct) (I : Nat → St → Prop) (k : Nat) (I2 : Nat → St → Prop) (j : Nat) := (G0, res71, ([] : List (Nat × Ob)), [Item.ir ir71_L1, .lend (I2 j), Item.bend 2, Item.bend 1, Item.ir ir71_T2, .lend (I k), Item.bend 0, Item.ir ir71_T4], st_spCV2 nn N c k j)
theorem evr_spCV2 : ∀ (nn : Bool) (N : Nat) (c : Ct) (I : Nat → St → Prop) (k : Nat) (I2 : Nat → St → Prop) (j : Nat),
  ev G0 res71 [] (3000 : Nat) ((Or.nil.split Or.nil).split Or.nil)
      [Item.ir ir71_L1, Item.lend (I2 j), Item.bend (2 : Nat), Item.bend (1 : Nat), Item.ir ir71_T2, Item.lend (I k),
        Item.bend (0 : Nat), Item.ir ir71_T4]
      (st_spCV2 nn N c k j) =
    VC.split (decide ((↑j : Int) < (↑k : Int)))
      (VC.need ((0 : Int) ≤ (↑j : Int) ∧ (↑j : Int).toNat < N)
        (VC.need ((0 : Int) ≤ (↑k : Int) ∧ (↑k : Int).toNat < N)
          (VC.split ((c.nm (↑j : Int).toNat).toList == (c.nm (↑k : Int).toNat).toList)
            (VC.doneP (AV.p true (PV.v (Value.bool false))))
            (VC.lend (I2 j)
              (St.mk
                [((0 : Nat), AV.p false (PV.sl nn (3 : Nat) N (NR c))),
                  ((3 : Nat), AV.p true (PV.v (Value.int IntKind.i64 (↑k : Int)))),
                  ((4 : Nat), AV.p true (PV.v (Value.int IntKind.i64 (IntKind.i64.wrap ((↑j : Int) + (1 : Int)))))),
                  ((29 : Nat), AV.p true (PV.v (Value.bool (decide ((↑j : Int) < (↑k : Int)))))),
                  ((42 : Nat),
                    AV.p true (PV.v (Value.bool ((c.nm (↑j : Int).toNat).toList == (c.nm (↑k : Int).toNat).toList))))]
                [])))))
      (VC.lend (I k)
        (St.mk
          [((0 : Nat), AV.p false (PV.sl nn (3 : Nat) N (NR c))),
            ((3 : Nat), AV.p true (PV.v (Value.int IntKind.i64 (IntKind.i64.wrap ((↑k : Int) + (1 : Int)))))),
            ((4 : Nat), AV.p true (PV.v (Value.int IntKind.i64 (↑j : Int)))),
            ((29 : Nat), AV.p true (PV.v (Value.bool (decide ((↑j : Int) < (↑k : Int))))))]
          [])) := by
  intros; kernel_rfl
theorem c_imCV (nn : Bool) (N : Nat) (c : Ct) (h : CtOk N c) : PRet Tryd.prog G0 75 [NL nn N c] (AB (catB N c)) := by
  obtain ⟨hN, hs, hn, hf, hm, hw⟩ := h
  refine PRet.by chk75 (ev_imCV nn N c) ?_
  refine loop_by (st_imCV nn N c) (fun k => k ≤ N ∧ ∀ i, i < k → catE c i = true) (fun k => N - k) 0 [] [] [] (by simp) ?_ (evr_imCV nn N c) fun k hk => ?_
  · simp [st_imCV, hbs, St.lowers, St.lower, stLe, leEnv, leObs, obLe, injB, pinC, AV.leC, AV.leCs, PV.leC, PV.Le_v, St.get, St.obj, look, rho, isNew, keptC, renH, Mode.ok, Mode.isZ, PV.isVal, PV.isNilSl, List.all_nil, List.all_cons, List.any_nil, List.any_cons, List.map_nil, List.map_cons, PV.Le_self]
  · obtain ⟨hk, hall⟩ := hk
    simp only [VC.holds_split, VC.holds_need, VC.holds_doneP, VC.holds_done, VC.holds_either, VC.holds_call, VC.holds_callE, VC.holds_lend, VC.holds_stop, VC.holds_fail, decide_eq_true_eq, decide_eq_false_iff_not, Int.toNat_natCast]
    refine ⟨fun h1 => ?_, fun h1 => ?_⟩
    · have hkN : k < N := by omega
      have bad : catE c k = false → catB N c = false := fun h => by simp [catB, allB_no hkN h]
      refine ⟨by omega, c_nameV _ (by have := hs k hkN; omega), fun h2 => ?_, fun h2 => ⟨c_tAt _ _ _ _ hN, fun h3 => ?_, fun h3 => ⟨c_imTV _ _ _ _ _ _ _ (hn k hkN) (fun j hj => hf k j hkN hj) (hm k hkN) (fun j hj => hw k j hkN hj), fun h4 => ?_, fun h4 => Again.mk (k + 1) [] [] [] ⟨by omega, fun i hi => ?_⟩ (by omega) ?_⟩⟩⟩
      · simp only [Bool.not_eq_true'] at h2
        rw [bad (by simp [catE, h2])]; simp
      · have h5 : allB (fun j => !eqT (c.nm j) (c.nm k)) k = false := by
          cases h6 : allB (fun j => !eqT (c.nm j) (c.nm k)) k with
          | false => rfl
          | true =>
            have := atT_at (nm := c.nm) (x := c.nm k) (k := k) (by simp [eqT]) (fun j hj => by simpa using allB_iff.1 h6 j hj) hkN
            rw [this] at h3; simp at h3
        rw [bad (by simp only [catE, h5]; simp)]; simp
      · simp only [Bool.not_eq_true'] at h4
        rw [bad (by simp only [catE, h4]; simp)]; simp
      · by_cases h5 : i = k
        · subst h5
          simp only [Bool.not_eq_false'] at h2 h4
          have h6 : allB (fun j => !eqT (c.nm j) (c.nm i)) i = true := allB_iff.2 fun j hj => by
            have h7 : atT c.nm (c.nm i) N = i := by simpa using h3
            have := (atT_pos (nm := c.nm) (x := c.nm i) (N := N) (by omega)).2 j (by rw [h7]; omega)
            simp [this]
          simp only [catE, h2, h4, h6, Bool.and_self]
        · exact hall i (by omega)
      · have e1 : IntKind.i64.wrap ((k : Int) + 1) = ((k + 1 : Nat) : Int) := wrap_in (by omega) (by omega)
        simp only [e1, st_imCV]
        simp [hbs, St.lowers, St.lower, stLe, leEnv, leObs, obLe, injB, pinC, AV.leC, AV.leCs, PV.leC, PV.Le_v, St.get, St.obj, look, rho, isNew, keptC, renH, Mode.ok, Mode.isZ, PV.isVal, PV.isNilSl, List.all_nil, List.all_cons, List.any_nil, List.any_cons, List.map_nil, List.map_cons, PV.Le_self]
    · have : k = N := by omega
      subst this
      have : allB (catE c) k = true := allB_iff.2 hall
      simp [catB, this]; omega
theorem c_spCV (nn : Bool) (N : Nat) (c : Ct) (h : CtOk N c) : PRet Tryd.prog G0 71 [NL nn N c] (AB (catB N c)) := by
  obtain ⟨hN, hs, hn, hf, hm, hw⟩ := h
  refine PRet.by chk71 (ev_spCV nn N c) ?_
  refine loop_by (st_spCV nn N c) (fun k => k ≤ N ∧ ∀ i, i < k → catE c i = true) (fun k => N - k) 0 [] [] [] (by simp) ?_ (evr_spCV nn N c) fun k hk => ?_
  · simp [st_spCV, hbs, St.lowers, St.lower, stLe, leEnv, leObs, obLe, injB, pinC, AV.leC, AV.leCs, PV.leC, PV.Le_v, St.get, St.obj, look, rho, isNew, keptC, renH, Mode.ok, Mode.isZ, PV.isVal, PV.isNilSl, List.all_nil, List.all_cons, List.any_nil, List.any_cons, List.map_nil, List.map_cons, PV.Le_self]
  · obtain ⟨hk, hall⟩ := hk
    simp only [VC.holds_split, VC.holds_need, VC.holds_doneP, VC.holds_done, VC.holds_either, VC.holds_call, VC.holds_callE, VC.holds_lend, VC.holds_stop, VC.holds_fail, decide_eq_true_eq, decide_eq_false_iff_not, Int.toNat_natCast]
    refine ⟨fun h1 => ?_, fun h1 => ?_⟩
    · have hkN : k < N := by omega
      have bad : catE c k = false → catB N c = false := fun h => by simp [catB, allB_no hkN h]
      refine ⟨by omega, c_spNV _ (by have := hs k hkN; omega), fun h2 => ?_, fun h2 => ⟨by omega, c_spTV _ _ _ _ _ _ _ (hn k hkN) (fun j hj => hf k j hkN hj) (hm k hkN) (fun j hj => hw k j hkN hj), fun h4 => ?_, fun h4 => ?_⟩⟩
      · simp only [Bool.not_eq_true'] at h2
        rw [bad (by simp [catE, h2])]; simp
      · simp only [Bool.not_eq_true'] at h4
        rw [bad (by simp only [catE, h4]; simp)]; simp
      · refine loop_by (st_spCV2 nn N c k) (fun j => j ≤ k ∧ ∀ i, i < j → eqT (c.nm i) (c.nm k) = false) (fun j => k - j) 0 [] [] [] (by simp) ?_ (fun J j => evr_spCV2 nn N c _ k J j) fun j hj => ?_
        · simp [st_spCV2, hbs, St.lowers, St.lower, stLe, leEnv, leObs, obLe, injB, pinC, AV.leC, AV.leCs, PV.leC, PV.Le_v, St.get, St.obj, look, rho, isNew, keptC, renH, Mode.ok, Mode.isZ, PV.isVal, PV.isNilSl, List.all_nil, List.all_cons, List.any_nil, List.any_cons, List.map_nil, List.map_cons, PV.Le_self]
        · obtain ⟨hj, hne⟩ := hj
          simp only [VC.holds_split, VC.holds_need, VC.holds_doneP, VC.holds_done, VC.holds_either, VC.holds_call, VC.holds_callE, VC.holds_lend, VC.holds_stop, VC.holds_fail, decide_eq_true_eq, decide_eq_false_iff_not, Int.toNat_natCast]
          refine ⟨fun h3 => ⟨by omega, by omega, fun h5 => ?_, fun h5 => Again.mk (j + 1) [] [] [] ⟨by omega, fun i hi => ?_⟩ (by omega) ?_⟩, fun h3 => Again.mk (k + 1) [] [] [] ⟨by omega, fun i hi => ?_⟩ (by omega) ?_⟩
          · have h6 : (fun j => !eqT (c.nm j) (c.nm k)) j = false := by simp only [eqT, h5]; rfl
            rw [bad (by simp only [catE, allB_no (p := fun j => !eqT (c.nm j) (c.nm k)) (show j < k by omega) h6]; simp)]; simp
          · by_cases h6 : i = j
            · subst h6; exact h5
            · exact hne i (by omega)
          · have e1 : IntKind.i64.wrap ((j : Int) + 1) = ((j + 1 : Nat) : Int) := wrap_in (by omega) (by omega)
            simp only [e1, st_spCV2]
            simp [hbs, St.lowers, St.lower, stLe, leEnv, leObs, obLe, injB, pinC, AV.leC, AV.leCs, PV.leC, PV.Le_v, St.get, St.obj, look, rho, isNew, keptC, renH, Mode.ok, Mode.isZ, PV.isVal, PV.isNilSl, List.all_nil, List.all_cons, List.any_nil, List.any_cons, List.map_nil, List.map_cons, PV.Le_self]
          · by_cases h6 : i = k
            · subst h6
              simp only [Bool.not_eq_false'] at h2 h4
              have h7 : allB (fun j => !eqT (c.nm j) (c.nm i)) i = true := allB_iff.2 fun l hl => by simp [hne l (by omega)]
              simp only [catE, h2, h4, h7, Bool.and_self]
            · exact hall i (by omega)
          · have e1 : IntKind.i64.wrap ((k : Int) + 1) = ((k + 1 : Nat) : Int) := wrap_in (by omega) (by omega)
            simp only [e1, st_spCV]
            simp [hbs, St.lowers, St.lower, stLe, leEnv, leObs, obLe, injB, pinC, AV.leC, AV.leCs, PV.leC, PV.Le_v, St.get, St.obj, look, rho, isNew, keptC, renH, Mode.ok, Mode.isZ, PV.isVal, PV.isNilSl, List.all_nil, List.all_cons, List.any_nil, List.any_cons, List.map_nil, List.map_cons, PV.Le_self]
    · have : k = N := by omega
      subst this
      have : allB (catE c) k = true := allB_iff.2 hall
      simp [catB, this]; omega
/-! ### FindTable -/
def fdB (N : Nat) (c : Ct) (x : ByteArray) : Bool := catB N c && decide (0 ≤ atT c.nm x N)
def fdA (N : Nat) (c : Ct) (x : ByteArray) : Nat := (atT c.nm x N).toNat
def fdN (N : Nat) (c : Ct) (x : ByteArray) : Nat := if fdB N c x then c.n (fdA N c x) else 0
def fdM (N : Nat) (c : Ct) (x : ByteArray) : Nat := if fdB N c x then c.m (fdA N c x) else 0
abbrev fdR (N : Nat) (c : Ct) (x : ByteArray) : AV := .tp [taR, AB (fdB N c x)]
abbrev fdH (N : Nat) (c : Ct) (x : ByteArray) : List (Nat × Ob) := taH (fdN N c x) (c.f (fdA N c x)) (fdM N c x) (c.w (fdA N c x)) (c.h (fdA N c x))
def in_imFT (nn : Bool) (N : Nat) (c : Ct) (x : ByteArray) := (G0, res23, ([] : List (Nat × Ob)), [Item.ir ir23], start [NL nn N c, AT x] [])
theorem ev_imFT : ∀ (nn : Bool) (N : Nat) (c : Ct) (x : ByteArray),
  ev G0 res23 [] (3000 : Nat)
      (Or.call [] (AI (atT c.nm x N)) []
        (Or.call [] (AB (catB N c)) []
          (Or.nil.lit.lit.lit.split
            (Or.nil.split
                  (Or.call [] taR
                    (taH (c.n (atT c.nm x N).toNat) (c.f (atT c.nm x N).toNat) (c.m (atT c.nm x N).toNat)
                      (c.w (atT c.nm x N).toNat) (c.h (atT c.nm x N).toNat))
                    Or.nil)).lit.lit)))
      [Item.ir ir23] (start [NL nn N c, AT x] []) =
    VC.call (74 : Nat) [AV.p false (PV.sl nn (3 : Nat) N (NR c)), AV.p true (PV.v (Value.string x))] []
      (AI (atT c.nm x N)) []
      (VC.call (75 : Nat) [AV.p false (PV.sl nn (3 : Nat) N (NR c))] [] (AB (catB N c)) []
        (VC.split (!catB N c)
          (VC.done
            (St.mk
              [((0 : Nat), AV.p false (PV.sl nn (3 : Nat) N (NR c))), ((1 : Nat), AV.p true (PV.v (Value.string x))),
                ((4 : Nat), AV.adr (4 : Nat) (0 : Nat)), ((5 : Nat), AV.p true (PV.v (Value.bool false))),
                ((6 : Nat), AV.p true (PV.v (Value.int IntKind.i64 (atT c.nm x N)))),
                ((16 : Nat), AV.p true (PV.v (Value.bool true)))]
              [((4 : Nat),
                  Ob.box
                    [AV.p true (PV.v (Value.slice none (0 : Nat) (0 : Nat))),
                      AV.p true (PV.v (Value.slice none (0 : Nat) (0 : Nat)))])]))
          (VC.split (decide (atT c.nm x N < (0 : Int)))
            (VC.done
              (St.mk
                [((0 : Nat), AV.p false (PV.sl nn (3 : Nat) N (NR c))), ((1 : Nat), AV.p true (PV.v (Value.string x))),
                  ((4 : Nat), AV.adr (4 : Nat) (0 : Nat)), ((5 : Nat), AV.p true (PV.v (Value.bool false))),
                  ((6 : Nat), AV.p true (PV.v (Value.int IntKind.i64 (atT c.nm x N)))),
                  ((16 : Nat), AV.p true (PV.v (Value.bool (decide (atT c.nm x N < (0 : Int))))))]
                [((4 : Nat),
                    Ob.box
                      [AV.p true (PV.v (Value.slice none (0 : Nat) (0 : Nat))),
                        AV.p true (PV.v (Value.slice none (0 : Nat) (0 : Nat)))])]))
            (VC.need ((0 : Int) ≤ atT c.nm x N ∧ (atT c.nm x N).toNat < N)
              (VC.call (76 : Nat)
                [AV.ag
                    [AV.p false (PV.sl false (1 : Nat) (c.n (atT c.nm x N).toNat) (TR (c.f (atT c.nm x N).toNat))),
                      AV.p false
                        (PV.sl false (1 : Nat) (c.m (atT c.nm x N).toNat)
                          (RR (c.w (atT c.nm x N).toNat) (c.h (atT c.nm x N).toNat)))]]
                [] taR
                (taH (c.n (atT c.nm x N).toNat) (c.f (atT c.nm x N).toNat) (c.m (atT c.nm x N).toNat)
                  (c.w (atT c.nm x N).toNat) (c.h (atT c.nm x N).toNat))
                (VC.done
                  (St.mk
                    [((0 : Nat), AV.p false (PV.sl nn (3 : Nat) N (NR c))),
                      ((1 : Nat), AV.p true (PV.v (Value.string x))), ((4 : Nat), AV.adr (4 : Nat) (0 : Nat)),
                      ((5 : Nat), AV.p true (PV.v (Value.bool true))),
                      ((6 : Nat), AV.p true (PV.v (Value.int IntKind.i64 (atT c.nm x N)))),
                      ((16 : Nat), AV.p true (PV.v (Value.bool (decide (atT c.nm x N < (0 : Int))))))]
                    [((4 : Nat), Ob.box [AV.own (1023 : Nat), AV.own (2023 : Nat)]),
                      ((1023 : Nat),
                        Ob.row Mode.u false (1 : Nat) (c.n (atT c.nm x N).toNat) (TR (c.f (atT c.nm x N).toNat)) []),
                      ((2023 : Nat),
                        Ob.row Mode.u false (1 : Nat) (c.m (atT c.nm x N).toNat)
                          (RR (c.w (atT c.nm x N).toNat) (c.h (atT c.nm x N).toNat)) [])]))))))) := by
  intros; kernel_rfl
def in_spFT (nn : Bool) (N : Nat) (c : Ct) (x : ByteArray) := (G0, res21, ([] : List (Nat × Ob)), [Item.ir ir21], start [NL nn N c, AT x] [])
theorem ev_spFT : ∀ (nn : Bool) (N : Nat) (c : Ct) (x : ByteArray),
  ev G0 res21 [] (3000 : Nat) Or.nil [Item.ir ir21] (start [NL nn N c, AT x] []) =
    VC.loop ir21_L1 [Item.bend (0 : Nat), Item.ir ir21_T2]
      (St.mk
        [((0 : Nat), AV.p false (PV.sl nn (3 : Nat) N (NR c))), ((1 : Nat), AV.p true (PV.v (Value.string x))),
          ((4 : Nat), AV.adr (4 : Nat) (0 : Nat)), ((5 : Nat), AV.p true (PV.v (Value.bool false))),
          ((6 : Nat), AV.p true (PV.v (Value.int IntKind.i64 (0 : Int))))]
        [((4 : Nat),
            Ob.box
              [AV.p true (PV.v (Value.slice none (0 : Nat) (0 : Nat))),
                AV.p true (PV.v (Value.slice none (0 : Nat) (0 : Nat)))])]) := by
  intros; kernel_rfl
def st_spFT (nn : Bool) (N : Nat) (c : Ct) (x : ByteArray) (k : Nat) : St := ⟨[(0, NL nn N c), (1, AT x), (4, .adr 4 0), (5, AB false), (6, AI k)], [(4, .box [.p true (.v (.slice none 0 0)), .p true (.v (.slice none 0 0))])]⟩
def r_spFT (nn : Bool) (N : Nat) (c : Ct) (x : ByteArray) (I : Nat → St → Prop) (k : Nat) := (G0, res21, ([] : List (Nat × Ob)), [Item.ir ir21_L1, .lend (I k), Item.bend 0, Item.ir ir21_T2], st_spFT nn N c x k)
theorem evr_spFT : ∀ (nn : Bool) (N : Nat) (c : Ct) (x : ByteArray) (I : Nat → St → Prop) (k : Nat),
  ev G0 res21 [] (3000 : Nat)
      ((Or.call [] (AB (catB N c)) []
              (((Or.call [] taR
                          (taH (c.n (↑k : Int).toNat) (c.f (↑k : Int).toNat) (c.m (↑k : Int).toNat)
                            (c.w (↑k : Int).toNat) (c.h (↑k : Int).toNat))
                          Or.nil).split
                      Or.nil).split
                  Or.nil).lit).lit.split
        Or.nil.lit.lit.lit)
      [Item.ir ir21_L1, Item.lend (I k), Item.bend (0 : Nat), Item.ir ir21_T2] (st_spFT nn N c x k) =
    VC.split (decide ((↑k : Int) < (↑N : Int)))
      (VC.call (71 : Nat) [AV.p false (PV.sl nn (3 : Nat) N (NR c))] [] (AB (catB N c)) []
        (VC.split (catB N c)
          (VC.need ((0 : Int) ≤ (↑k : Int) ∧ (↑k : Int).toNat < N)
            (VC.split ((c.nm (↑k : Int).toNat).toList == x.toList)
              (VC.need ((0 : Int) ≤ (↑k : Int) ∧ (↑k : Int).toNat < N)
                (VC.call (72 : Nat)
                  [AV.ag
                      [AV.p false (PV.sl false (1 : Nat) (c.n (↑k : Int).toNat) (TR (c.f (↑k : Int).toNat))),
                        AV.p false
                          (PV.sl false (1 : Nat) (c.m (↑k : Int).toNat)
                            (RR (c.w (↑k : Int).toNat) (c.h (↑k : Int).toNat)))]]
                  [] taR
                  (taH (c.n (↑k : Int).toNat) (c.f (↑k : Int).toNat) (c.m (↑k : Int).toNat) (c.w (↑k : Int).toNat)
                    (c.h (↑k : Int).toNat))
                  (VC.done
                    (St.mk
                      [((0 : Nat), AV.p false (PV.sl nn (3 : Nat) N (NR c))),
                        ((1 : Nat), AV.p true (PV.v (Value.string x))), ((4 : Nat), AV.adr (4 : Nat) (0 : Nat)),
                        ((5 : Nat), AV.p true (PV.v (Value.bool true))),
                        ((6 : Nat), AV.p true (PV.v (Value.int IntKind.i64 (↑k : Int)))),
                        ((14 : Nat), AV.p true (PV.v (Value.bool (catB N c)))),
                        ((23 : Nat), AV.p true (PV.v (Value.bool ((c.nm (↑k : Int).toNat).toList == x.toList))))]
                      [((4 : Nat), Ob.box [AV.own (1029 : Nat), AV.own (2029 : Nat)]),
                        ((1029 : Nat),
                          Ob.row Mode.u false (1 : Nat) (c.n (↑k : Int).toNat) (TR (c.f (↑k : Int).toNat)) []),
                        ((2029 : Nat),
                          Ob.row Mode.u false (1 : Nat) (c.m (↑k : Int).toNat)
                            (RR (c.w (↑k : Int).toNat) (c.h (↑k : Int).toNat)) [])]))))
              (VC.lend (I k)
                (St.mk
                  [((0 : Nat), AV.p false (PV.sl nn (3 : Nat) N (NR c))),
                    ((1 : Nat), AV.p true (PV.v (Value.string x))), ((4 : Nat), AV.adr (4 : Nat) (0 : Nat)),
                    ((5 : Nat), AV.p true (PV.v (Value.bool false))),
                    ((6 : Nat), AV.p true (PV.v (Value.int IntKind.i64 (IntKind.i64.wrap ((↑k : Int) + (1 : Int)))))),
                    ((14 : Nat), AV.p true (PV.v (Value.bool (catB N c)))),
                    ((23 : Nat), AV.p true (PV.v (Value.bool ((c.nm (↑k : Int).toNat).toList == x.toList))))]
                  [((4 : Nat),
                      Ob.box
                        [AV.p true (PV.v (Value.slice none (0 : Nat) (0 : Nat))),
                          AV.p true (PV.v (Value.slice none (0 : Nat) (0 : Nat)))])]))))
          (VC.done
            (St.mk
              [((0 : Nat), AV.p false (PV.sl nn (3 : Nat) N (NR c))), ((1 : Nat), AV.p true (PV.v (Value.string x))),
                ((4 : Nat), AV.adr (4 : Nat) (0 : Nat)), ((5 : Nat), AV.p true (PV.v (Value.bool false))),
                ((6 : Nat), AV.p true (PV.v (Value.int IntKind.i64 (↑k : Int)))),
                ((14 : Nat), AV.p true (PV.v (Value.bool (catB N c))))]
              [((4 : Nat),
                  Ob.box
                    [AV.p true (PV.v (Value.slice none (0 : Nat) (0 : Nat))),
                      AV.p true (PV.v (Value.slice none (0 : Nat) (0 : Nat)))])]))))
      (VC.done
        (St.mk
          [((0 : Nat), AV.p false (PV.sl nn (3 : Nat) N (NR c))), ((1 : Nat), AV.p true (PV.v (Value.string x))),
            ((4 : Nat), AV.adr (4 : Nat) (0 : Nat)), ((5 : Nat), AV.p true (PV.v (Value.bool false))),
            ((6 : Nat), AV.p true (PV.v (Value.int IntKind.i64 (↑k : Int)))),
            ((14 : Nat), AV.p true (PV.v (Value.bool false)))]
          [((4 : Nat),
              Ob.box
                [AV.p true (PV.v (Value.slice none (0 : Nat) (0 : Nat))),
                  AV.p true (PV.v (Value.slice none (0 : Nat) (0 : Nat)))])])) := by
  intros; kernel_rfl
theorem fdR_no {N : Nat} {c : Ct} {x : ByteArray} (h : fdB N c x = false) : fdN N c x = 0 ∧ fdM N c x = 0 := by simp [fdN, fdM, h]
theorem c_imFT (nn : Bool) (N : Nat) (c : Ct) (x : ByteArray) (h : CtOk N c) : PObj Tryd.prog G0 23 [NL nn N c, AT x] [] (fdR N c x) (fdH N c x) := by
  refine PObj.by chk23 rfl (ev_imFT nn N c x) ?_
  simp only [VC.holds_split, VC.holds_need, VC.holds_doneP, VC.holds_done, VC.holds_either, VC.holds_call, VC.holds_callE, VC.holds_lend, VC.holds_stop, VC.holds_fail, decide_eq_true_eq, decide_eq_false_iff_not]
  have hb := atT_lt c.nm x N
  refine ⟨c_tAt _ _ _ _ h.hN, c_imCV _ _ _ h, fun h1 => ?_, fun h1 => ⟨fun h2 => ?_, fun h2 => ?_⟩⟩
  · have h3 : fdB N c x = false := by simp only [Bool.not_eq_true'] at h1; simp [fdB, h1]
    simp only [fdR, fdH, (fdR_no h3).1, (fdR_no h3).2, h3]
    refine ResOk.mk [] [] [0, 1] _ _ ?_ ⟨rfl, rfl⟩
    simp [doneC, resOf, resAV, tup, pinR, PV.Le_self, hbs, St.lowers, St.lower, stLe, leEnv, leObs, obLe, injB, pinC, AV.leC, AV.leCs, PV.leC, PV.Le_v, St.get, St.obj, look, rho, isNew, keptC, renH, Mode.ok, Mode.isZ, PV.isVal, PV.isNilSl, List.all_nil, List.all_cons, List.any_nil, List.any_cons, List.map_nil, List.map_cons, res23]
  · have h3 : fdB N c x = false := by simp [fdB, show ¬ 0 ≤ atT c.nm x N by omega]
    simp only [fdR, fdH, (fdR_no h3).1, (fdR_no h3).2, h3]
    refine ResOk.mk [] [] [0, 1] _ _ ?_ ⟨rfl, rfl⟩
    simp [doneC, resOf, resAV, tup, pinR, PV.Le_self, hbs, St.lowers, St.lower, stLe, leEnv, leObs, obLe, injB, pinC, AV.leC, AV.leCs, PV.leC, PV.Le_v, St.get, St.obj, look, rho, isNew, keptC, renH, Mode.ok, Mode.isZ, PV.isVal, PV.isNilSl, List.all_nil, List.all_cons, List.any_nil, List.any_cons, List.map_nil, List.map_cons, res23]
  · have h3 : fdB N c x = true := by simp only [Bool.not_eq_false'] at h1; simp [fdB, h1]; omega
    have hk : (atT c.nm x N).toNat < N := by omega
    refine ⟨by omega, c_clA _ _ _ _ _ (h.hn _ hk) (h.hm _ hk) (fun j hj => h.hw _ j hk hj), ?_⟩
    have e1 : fdN N c x = c.n (fdA N c x) := by simp [fdN, h3]
    have e2 : fdM N c x = c.m (fdA N c x) := by simp [fdM, h3]
    simp only [fdR, fdH, e1, e2, h3]
    refine ResOk.mk [] [(0, 1023), (1, 2023)] [] _ _ ?_ ⟨rfl, rfl⟩
    simp [doneC, resOf, resAV, tup, pinR, PV.Le_self, hbs, St.lowers, St.lower, stLe, leEnv, leObs, obLe, injB, pinC, AV.leC, AV.leCs, PV.leC, PV.Le_v, St.get, St.obj, look, rho, isNew, keptC, renH, Mode.ok, Mode.isZ, PV.isVal, PV.isNilSl, List.all_nil, List.all_cons, List.any_nil, List.any_cons, List.map_nil, List.map_cons, res23, fdA]
theorem c_spFT (nn : Bool) (N : Nat) (c : Ct) (x : ByteArray) (h : CtOk N c) : PObj Tryd.prog G0 21 [NL nn N c, AT x] [] (fdR N c x) (fdH N c x) := by
  refine PObj.by chk21 rfl (ev_spFT nn N c x) ?_
  refine loop_by (st_spFT nn N c x) (fun k => k ≤ N ∧ ∀ j, j < k → eqT (c.nm j) x = false) (fun k => N - k) 0 [] [] [] (by simp) ?_ (evr_spFT nn N c x) fun k hk => ?_
  · simp [st_spFT, hbs, St.lowers, St.lower, stLe, leEnv, leObs, obLe, injB, pinC, AV.leC, AV.leCs, PV.leC, PV.Le_v, St.get, St.obj, look, rho, isNew, keptC, renH, Mode.ok, Mode.isZ, PV.isVal, PV.isNilSl, List.all_nil, List.all_cons, List.any_nil, List.any_cons, List.map_nil, List.map_cons, PV.Le_self]
  · obtain ⟨hk, hall⟩ := hk
    simp only [VC.holds_split, VC.holds_need, VC.holds_doneP, VC.holds_done, VC.holds_either, VC.holds_call, VC.holds_callE, VC.holds_lend, VC.holds_stop, VC.holds_fail, decide_eq_true_eq, decide_eq_false_iff_not, Int.toNat_natCast]
    refine ⟨fun h1 => ⟨c_spCV _ _ _ h, fun h2 => ⟨by omega, fun h3 => ?_, fun h3 => ?_⟩, fun h2 => ?_⟩, fun h1 => ?_⟩
    · have hkN : k < N := by omega
      have h4 := atT_at (nm := c.nm) (x := x) h3 hall hkN
      have h5 : fdB N c x = true := by simp [fdB, h2, h4]
      have h6 : fdA N c x = k := by simp [fdA, h4]
      have e1 : fdN N c x = c.n k := by simp [fdN, h5, h6]
      have e2 : fdM N c x = c.m k := by simp [fdM, h5, h6]
      refine ⟨⟨by omega, hkN⟩, c_cpA _ _ _ _ _ (h.hn _ hkN) (h.hm _ hkN) (fun j hj => h.hw _ j hkN hj), ?_⟩
      simp only [fdR, fdH, e1, e2, h5, h6]
      refine ResOk.mk [] [(0, 1029), (1, 2029)] [] _ _ ?_ ⟨rfl, rfl⟩
      simp [doneC, resOf, resAV, tup, pinR, PV.Le_self, hbs, St.lowers, St.lower, stLe, leEnv, leObs, obLe, injB, pinC, AV.leC, AV.leCs, PV.leC, PV.Le_v, St.get, St.obj, look, rho, isNew, keptC, renH, Mode.ok, Mode.isZ, PV.isVal, PV.isNilSl, List.all_nil, List.all_cons, List.any_nil, List.any_cons, List.map_nil, List.map_cons, res21]
    · refine Again.mk (k + 1) [] [] [] ⟨by omega, fun j hj => ?_⟩ (by omega) ?_
      · by_cases h5 : j = k
        · subst h5; exact h3
        · exact hall j (by omega)
      · have e1 : IntKind.i64.wrap ((k : Int) + 1) = ((k + 1 : Nat) : Int) := wrap_in (by omega) (by have := h.hN; omega)
        simp [st_spFT, hbs, St.lowers, St.lower, stLe, leEnv, leObs, obLe, injB, pinC, AV.leC, AV.leCs, PV.leC, PV.Le_v, St.get, St.obj, look, rho, isNew, keptC, renH, Mode.ok, Mode.isZ, PV.isVal, PV.isNilSl, List.all_nil, List.all_cons, List.any_nil, List.any_cons, List.map_nil, List.map_cons, PV.Le_self, e1]
    · have h3 : fdB N c x = false := by simp [fdB, h2]
      simp only [fdR, fdH, (fdR_no h3).1, (fdR_no h3).2, h3]
      refine ResOk.mk [] [] [0, 1] _ _ ?_ ⟨rfl, rfl⟩
      simp [doneC, resOf, resAV, tup, pinR, PV.Le_self, hbs, St.lowers, St.lower, stLe, leEnv, leObs, obLe, injB, pinC, AV.leC, AV.leCs, PV.leC, PV.Le_v, St.get, St.obj, look, rho, isNew, keptC, renH, Mode.ok, Mode.isZ, PV.isVal, PV.isNilSl, List.all_nil, List.all_cons, List.any_nil, List.any_cons, List.map_nil, List.map_cons, res21]
    · have : k = N := by omega
      subst this
      have h3 : fdB k c x = false := by simp [fdB, atT_no hall]
      simp only [fdR, fdH, (fdR_no h3).1, (fdR_no h3).2, h3]
      refine ResOk.mk [] [] [0, 1] _ _ ?_ ⟨rfl, rfl⟩
      simp [doneC, resOf, resAV, tup, pinR, PV.Le_self, hbs, St.lowers, St.lower, stLe, leEnv, leObs, obLe, injB, pinC, AV.leC, AV.leCs, PV.leC, PV.Le_v, St.get, St.obj, look, rho, isNew, keptC, renH, Mode.ok, Mode.isZ, PV.isVal, PV.isNilSl, List.all_nil, List.all_cons, List.any_nil, List.any_cons, List.map_nil, List.map_cons, res21]
def in_lawFT (nn : Bool) (N : Nat) (c : Ct) (x : ByteArray) := (G0, res4, ([] : List (Nat × Ob)), [Item.ir ir4], start [NL nn N c, AT x] [])
theorem ev_lawFT : ∀ (nn : Bool) (N : Nat) (c : Ct) (x : ByteArray),
  ev G0 res4 [] (3000 : Nat)
      (Or.nil.split
        (Or.callE [] Int
          (fun (r : Int) =>
            r = (-1 : Int) ∨ (0 : Int) ≤ r ∧ r + (↑N : Int) + (↑(sumN (szE c) N) : Int) = (1048576 : Int))
          (fun (r : Int) => AI r) (fun (x_1 : Int) => []) fun (r : Int) =>
          Or.nil.split
            (Or.call [] (AV.own (0 : Nat)) [((0 : Nat), Ob.row Mode.u true (3 : Nat) N (NR c) [])]
              (Or.call [] (fdR N c x) (fdH N c x)
                (Or.call [] (AV.own (0 : Nat)) [((0 : Nat), Ob.row Mode.u true (3 : Nat) N (NR c) [])]
                  (Or.call [] (fdR N c x) (fdH N c x)
                    (Or.call [] (AB true) []
                      (Or.nil.split
                                (Or.call [] (AV.own (0 : Nat)) [((0 : Nat), Ob.row Mode.u true (3 : Nat) N (NR c) [])]
                                  (Or.call [] (AB true) []
                                    (Or.call [(1032 : Nat)] (AI ((1 : Int) + (↑(sumN (mkE c) N) : Int)))
                                        [((0 : Nat), Ob.row Mode.u true (3 : Nat) N (NR (mkC c (1 : Int) N)) [])]
                                        (Or.call [] (AB true) []
                                                (Or.no.split
                                                              (Or.call [(1036 : Nat), (2036 : Nat)]
                                                                (AI
                                                                  ((1 : Int) + (↑(fdN N c x) : Int) +
                                                                    (↑(sumN (c.w (fdA N c x)) (fdM N c x)) : Int)))
                                                                (taH (fdN N c x)
                                                                  (fun (i : Nat) => markT ((1 : Int) + (↑i : Int)))
                                                                  (fdM N c x) (c.w (fdA N c x))
                                                                  (mkH (c.w (fdA N c x))
                                                                    ((1 : Int) + (↑(fdN N c x) : Int))))
                                                                (Or.call []
                                                                  (AI
                                                                    ((1 : Int) + (↑(fdN N c x) : Int) +
                                                                      (↑(sumN (c.w (fdA N c x)) (fdM N c x)) : Int)))
                                                                  []
                                                                  (Or.nil.split
                                                                      (Or.call [] (AV.own (0 : Nat))
                                                                        [((0 : Nat),
                                                                            Ob.row Mode.u true (3 : Nat) N (NR c) [])]
                                                                        (Or.call [] (fdR N c x) (fdH N c x)
                                                                          (Or.call [] (AB true) []
                                                                            (Or.no.split
                                                                                      (Or.call []
                                                                                        (AI
                                                                                          ((1 : Int) +
                                                                                              (↑(fdN N c x) : Int) +
                                                                                            (↑(sumN (c.w (fdA N c x))
                                                                                                  (fdM N c x)) :
                                                                                              Int)))
                                                                                        []
                                                                                        (Or.no.split
                                                                                            Or.nil).lit)).lit.lit.lit.lit)))).lit))).lit.lit.lit.lit.lit.lit).lit.lit.lit).lit))).lit.lit.lit.lit)))))))
      [Item.ir ir4] (start [NL nn N c, AT x] []) =
    VC.split (decide ((1048576 : Int) < (↑x.size : Int))) (VC.doneP (AV.p true (PV.v (Value.bool true))))
      (VC.callE Int (20 : Nat)
        [AV.p false (PV.sl nn (3 : Nat) N (NR c)), AV.p true (PV.v (Value.int IntKind.i64 (1048576 : Int)))] []
        (fun (r : Int) => r = (-1 : Int) ∨ (0 : Int) ≤ r ∧ r + (↑N : Int) + (↑(sumN (szE c) N) : Int) = (1048576 : Int))
        (fun (r : Int) => AI r) (fun (x_1 : Int) => []) fun (r : Int) =>
        VC.split (decide (r < (0 : Int))) (VC.doneP (AV.p true (PV.v (Value.bool true))))
          (VC.call (22 : Nat) [AV.p false (PV.sl nn (3 : Nat) N (NR c))] [] (AV.own (0 : Nat))
            [((0 : Nat), Ob.row Mode.u true (3 : Nat) N (NR c) [])]
            (VC.call (21 : Nat) [AV.p false (PV.sl true (3 : Nat) N (NR c)), AV.p true (PV.v (Value.string x))] []
              (fdR N c x) (fdH N c x)
              (VC.call (22 : Nat) [AV.p false (PV.sl nn (3 : Nat) N (NR c))] [] (AV.own (0 : Nat))
                [((0 : Nat), Ob.row Mode.u true (3 : Nat) N (NR c) [])]
                (VC.call (23 : Nat) [AV.p false (PV.sl true (3 : Nat) N (NR c)), AV.p true (PV.v (Value.string x))] []
                  (fdR N c x) (fdH N c x)
                  (VC.call (24 : Nat)
                    [AV.ag
                        [AV.p false (PV.sl false (1 : Nat) (fdN N c x) (TR (c.f (fdA N c x)))),
                          AV.p false (PV.sl false (1 : Nat) (fdM N c x) (RR (c.w (fdA N c x)) (c.h (fdA N c x))))],
                      AV.ag
                        [AV.p false (PV.sl false (1 : Nat) (fdN N c x) (TR (c.f (fdA N c x)))),
                          AV.p false (PV.sl false (1 : Nat) (fdM N c x) (RR (c.w (fdA N c x)) (c.h (fdA N c x))))]]
                    [] (AB true) []
                    (VC.split (!fdB N c x == fdB N c x) (VC.doneP (AV.p true (PV.v (Value.bool false))))
                      (VC.call (22 : Nat) [AV.p false (PV.sl nn (3 : Nat) N (NR c))] [] (AV.own (0 : Nat))
                        [((0 : Nat), Ob.row Mode.u true (3 : Nat) N (NR c) [])]
                        (VC.call (25 : Nat)
                          [AV.p false (PV.sl true (3 : Nat) N (NR c)), AV.p false (PV.sl true (3 : Nat) N (NR c))] []
                          (AB true) []
                          (VC.call (26 : Nat) [AV.own (0 : Nat), AV.p true (PV.v (Value.int IntKind.i64 (1 : Int)))]
                            [((0 : Nat), Ob.row Mode.u true (3 : Nat) N (NR c) [])]
                            (AI ((1 : Int) + (↑(sumN (mkE c) N) : Int)))
                            [((0 : Nat), Ob.row Mode.u true (3 : Nat) N (NR (mkC c (1 : Int) N)) [])]
                            (VC.call (24 : Nat)
                              [AV.ag
                                  [AV.p false (PV.sl false (1 : Nat) (fdN N c x) (TR (c.f (fdA N c x)))),
                                    AV.p false
                                      (PV.sl false (1 : Nat) (fdM N c x) (RR (c.w (fdA N c x)) (c.h (fdA N c x))))],
                                AV.ag
                                  [AV.p false (PV.sl false (1 : Nat) (fdN N c x) (TR (c.f (fdA N c x)))),
                                    AV.p false
                                      (PV.sl false (1 : Nat) (fdM N c x) (RR (c.w (fdA N c x)) (c.h (fdA N c x))))]]
                              [] (AB true) []
                              (VC.split (!fdB N c x == fdB N c x) VC.fail
                                (VC.call (27 : Nat)
                                  [AV.ag [AV.own (0 : Nat), AV.own (1 : Nat)],
                                    AV.p true (PV.v (Value.int IntKind.i64 (1 : Int)))]
                                  [((0 : Nat), Ob.row Mode.u false (1 : Nat) (fdN N c x) (TR (c.f (fdA N c x))) []),
                                    ((1 : Nat),
                                      Ob.row Mode.u false (1 : Nat) (fdM N c x) (RR (c.w (fdA N c x)) (c.h (fdA N c x)))
                                        [])]
                                  (AI
                                    ((1 : Int) + (↑(fdN N c x) : Int) + (↑(sumN (c.w (fdA N c x)) (fdM N c x)) : Int)))
                                  (taH (fdN N c x) (fun (i : Nat) => markT ((1 : Int) + (↑i : Int))) (fdM N c x)
                                    (c.w (fdA N c x)) (mkH (c.w (fdA N c x)) ((1 : Int) + (↑(fdN N c x) : Int))))
                                  (VC.call (28 : Nat)
                                    [AV.ag
                                        [AV.p false
                                            (PV.sl false (1 : Nat) (fdN N c x)
                                              (TR fun (i : Nat) => markT ((1 : Int) + (↑i : Int)))),
                                          AV.p false
                                            (PV.sl false (1 : Nat) (fdM N c x)
                                              (RR (c.w (fdA N c x))
                                                (mkH (c.w (fdA N c x)) ((1 : Int) + (↑(fdN N c x) : Int)))))],
                                      AV.p true (PV.v (Value.int IntKind.i64 (1 : Int)))]
                                    []
                                    (AI
                                      ((1 : Int) + (↑(fdN N c x) : Int) +
                                        (↑(sumN (c.w (fdA N c x)) (fdM N c x)) : Int)))
                                    []
                                    (VC.split
                                      ((1 : Int) + (↑(fdN N c x) : Int) +
                                          (↑(sumN (c.w (fdA N c x)) (fdM N c x)) : Int) !=
                                        (1 : Int) + (↑(fdN N c x) : Int) +
                                          (↑(sumN (c.w (fdA N c x)) (fdM N c x)) : Int))
                                      (VC.doneP (AV.p true (PV.v (Value.bool false))))
                                      (VC.call (22 : Nat) [AV.p false (PV.sl nn (3 : Nat) N (NR c))] []
                                        (AV.own (0 : Nat)) [((0 : Nat), Ob.row Mode.u true (3 : Nat) N (NR c) [])]
                                        (VC.call (23 : Nat)
                                          [AV.p false (PV.sl true (3 : Nat) N (NR c)),
                                            AV.p true (PV.v (Value.string x))]
                                          [] (fdR N c x) (fdH N c x)
                                          (VC.call (24 : Nat)
                                            [AV.ag
                                                [AV.p false (PV.sl false (1 : Nat) (fdN N c x) (TR (c.f (fdA N c x)))),
                                                  AV.p false
                                                    (PV.sl false (1 : Nat) (fdM N c x)
                                                      (RR (c.w (fdA N c x)) (c.h (fdA N c x))))],
                                              AV.ag
                                                [AV.p false (PV.sl false (1 : Nat) (fdN N c x) (TR (c.f (fdA N c x)))),
                                                  AV.p false
                                                    (PV.sl false (1 : Nat) (fdM N c x)
                                                      (RR (c.w (fdA N c x)) (c.h (fdA N c x))))]]
                                            [] (AB true) []
                                            (VC.split (!fdB N c x == fdB N c x) VC.fail
                                              (VC.call (28 : Nat)
                                                [AV.ag
                                                    [AV.p false
                                                        (PV.sl false (1 : Nat) (fdN N c x)
                                                          (TR fun (i : Nat) => markT ((1 : Int) + (↑i : Int)))),
                                                      AV.p false
                                                        (PV.sl false (1 : Nat) (fdM N c x)
                                                          (RR (c.w (fdA N c x))
                                                            (mkH (c.w (fdA N c x))
                                                              ((1 : Int) + (↑(fdN N c x) : Int)))))],
                                                  AV.p true (PV.v (Value.int IntKind.i64 (1 : Int)))]
                                                []
                                                (AI
                                                  ((1 : Int) + (↑(fdN N c x) : Int) +
                                                    (↑(sumN (c.w (fdA N c x)) (fdM N c x)) : Int)))
                                                []
                                                (VC.split
                                                  ((1 : Int) + (↑(fdN N c x) : Int) +
                                                      (↑(sumN (c.w (fdA N c x)) (fdM N c x)) : Int) !=
                                                    (1 : Int) + (↑(fdN N c x) : Int) +
                                                      (↑(sumN (c.w (fdA N c x)) (fdM N c x)) : Int))
                                                  VC.fail
                                                  (VC.doneP (AV.p true (PV.v (Value.bool true))))))))))))))))))))))))) := by
  intros; kernel_rfl
end Go.Gw
