/- Memories: which are valid, by the model; with no condition. -/
import Derived.Test.YtopnhnnfobbocaaDoorMemV3
import Derived.KernelRfl
namespace Go.Gw
open Go Go.Proofs
set_option linter.unusedSimpArgs false
set_option linter.unusedVariables false
set_option maxRecDepth 100000
def ir66 : Ir :=
  (.seq
  (.reg [] [o 2 (.mov (.const (.slice none 0 0)))])
  (.seq
  (.seq
  (.reg [3, 4] [o 3 (.mov (tt 0)),
    o 4 (.call 64 [(tt 3), (ci 0), (ci 3)]),
    o 5 (.un .not (tt 4))])
  (.cond (tt 5)
   (.seq
   (.reg [6] [o 6 (.mkSl 1 0 [(.int .i64 0)] []),
     o 2 (.mov (tt 6))])
   .ret)
   .skip))
  (.seq
  (.reg [7, 8, 9, 10, 11, 12] [o 7 (.mov (tt 0)),
    o 8 (.bin .quo (tt 7) (ci 2)),
    o 9 (.bin .add (ci 1) (tt 8)),
    o 10 (.mov (tt 0)),
    o 11 (.bin .add (ci 3) (tt 10)),
    o 12 (.mkSl 1 3 [(.int .i64 0)] [(0, (ci 0)), (1, (tt 9)), (2, (tt 11))]),
    o 2 (.mov (tt 12))])
  .ret)))
def keep66 : List Nat := [0, 2, 5]
def res66 : List RI := [.tmp 2]
theorem chk66 : chk Tryd.prog 66 1 keep66 = some (ir66, res66) := by kernel_rfl
def ir137_L1 : Ir :=
  (.seq
  (.seq
  (.reg [9, 10, 11] [o 9 (.mov (tt 6)),
    o 10 (.mov (tt 5)),
    o 11 (.len (tt 10)),
    o 12 (.bin .lss (tt 9) (tt 11))])
  (.cond (tt 12)
   .skip
   (.exit 0)))
  (.seq
  (.block 1
   (.seq
   (.reg [15, 16, 17, 18, 19] [o 15 (.mov (tt 5)),
     o 16 (.mov (tt 6)),
     o 17 (.idx 1 (tt 15) (tt 16)),
     o 18 (.load false 1 (tt 17)),
     o 19 (.mov (tt 0)),
     o 20 (.bin .eql (tt 18) (tt 19))])
   (.cond (tt 20)
    (.seq
    (.reg [] [o 4 (.mov (cb true))])
    .ret)
    .skip)))
  (.reg [13, 14] [o 13 (.mov (tt 6)),
    o 14 (.bin .add (tt 13) (ci 1)),
    o 6 (.mov (tt 14))])))
def ir137_T2 : Ir :=
  (.seq
  (.reg [] [o 4 (.mov (cb false))])
  .ret)
def ir137 : Ir :=
  (.seq
  (.reg [] [o 4 (.mov (cb false))])
  (.seq
  (.reg [7, 8] [o 7 (.mov (tt 1)),
    o 8 (.call 66 [(tt 7)]),
    o 5 (.mov (tt 8))])
  (.seq
  (.seq
  (.reg [] [o 6 (.mov (ci 0))])
  (.block 0
   (.loop ir137_L1)))
  ir137_T2)))
def keep137 : List Nat := [0, 1, 4, 5, 6, 12, 20]
def res137 : List RI := [.tmp 4]
theorem chk137 : chk Tryd.prog 137 2 keep137 = some (ir137, res137) := by kernel_rfl
def ir63_L1 : Ir :=
  (.seq
  (.seq
  (.reg [22, 23, 24, 25, 26, 27, 28] [o 22 (.mov (tt 6)),
    o 23 (.fadr 0 (tt 1)),
    o 24 (.load false 1 (tt 23)),
    o 25 (.mov (tt 5)),
    o 26 (.idx 1 (tt 24) (tt 25)),
    o 27 (.load false 1 (tt 26)),
    o 28 (.len (tt 27)),
    o 29 (.bin .lss (tt 22) (tt 28))])
  (.cond (tt 29)
   .skip
   (.exit 2)))
  (.seq
  (.block 3
   (.seq
   (.reg [32, 33, 34, 35, 36, 37, 38, 39, 40, 41, 42] [o 32 (.mov (tt 5)),
     o 33 (.fadr 0 (tt 1)),
     o 34 (.load false 1 (tt 33)),
     o 35 (.mov (tt 5)),
     o 36 (.idx 1 (tt 34) (tt 35)),
     o 37 (.load false 1 (tt 36)),
     o 38 (.mov (tt 6)),
     o 39 (.idx 3 (tt 37) (tt 38)),
     o 40 (.fadr 2 (tt 39)),
     o 41 (.load false 1 (tt 40)),
     o 42 (.call 137 [(tt 32), (tt 41)]),
     o 43 (.un .not (tt 42))])
   (.cond (tt 43)
    (.seq
    (.reg [] [o 2 (.mov (cb false))])
    .ret)
    .skip)))
  (.reg [30, 31] [o 30 (.mov (tt 6)),
    o 31 (.bin .add (tt 30) (ci 1)),
    o 6 (.mov (tt 31))])))
def ir63_T2 : Ir :=
  (.seq
  (.seq
  (.reg [44, 45, 46, 47, 48, 49] [o 44 (.fadr 0 (tt 1)),
    o 45 (.load false 1 (tt 44)),
    o 46 (.mov (tt 5)),
    o 47 (.idx 1 (tt 45) (tt 46)),
    o 48 (.load false 1 (tt 47)),
    o 49 (.len (tt 48)),
    o 50 (.bin .gtr (tt 49) (ci 2))])
  (.cond (tt 50)
   (.seq
   (.reg [] [o 2 (.mov (cb false))])
   .ret)
   .skip))
  (.reg [51, 52, 53, 54, 55, 56, 57] [o 51 (.mov (tt 4)),
    o 52 (.fadr 0 (tt 1)),
    o 53 (.load false 1 (tt 52)),
    o 54 (.mov (tt 5)),
    o 55 (.idx 1 (tt 53) (tt 54)),
    o 56 (.load false 1 (tt 55)),
    o 57 (.app 3 24 true (tt 51) (tt 56)),
    o 4 (.mov (tt 57))]))
def ir63_T3 : Ir :=
  (.reg [20, 21] [o 20 (.mov (tt 5)),
    o 21 (.bin .add (tt 20) (ci 1)),
    o 5 (.mov (tt 21))])
def ir63_L4 : Ir :=
  (.seq
  (.seq
  (.reg [15, 16, 17, 18] [o 15 (.mov (tt 5)),
    o 16 (.fadr 0 (tt 1)),
    o 17 (.load false 1 (tt 16)),
    o 18 (.len (tt 17)),
    o 19 (.bin .lss (tt 15) (tt 18))])
  (.cond (tt 19)
   .skip
   (.exit 0)))
  (.seq
  (.block 1
   (.seq
   (.seq
   (.reg [] [o 6 (.mov (ci 0))])
   (.block 2
    (.loop ir63_L1)))
   ir63_T2))
  ir63_T3))
def ir63_L5 : Ir :=
  (.seq
  (.seq
  (.reg [58, 59, 60] [o 58 (.mov (tt 7)),
    o 59 (.mov (tt 4)),
    o 60 (.len (tt 59)),
    o 61 (.bin .lss (tt 58) (tt 60))])
  (.cond (tt 61)
   .skip
   (.exit 4)))
  (.seq
  (.block 5
   (.seq
   (.reg [64, 65, 66, 67] [o 64 (.mov (tt 4)),
     o 65 (.mov (tt 7)),
     o 66 (.idx 3 (tt 64) (tt 65)),
     o 67 (.load true 3 (tt 66)),
     o 8 (.alloc [(.int .i64 0), (.int .i64 0), (.int .i64 0)]),
     on (.store 3 (tt 8) (tt 67))])
   (.seq
   (.seq
   (.reg [68, 69, 70, 71, 72, 73, 74, 75, 76, 77, 78, 79, 80, 81, 82] [o 68 (.fadr 0 (tt 8)),
     o 69 (.load false 1 (tt 68)),
     o 70 (.call 64 [(tt 69), (ci 0), (ci 7)]),
     o 71 (.un .not (tt 70)),
     o 72 (.mov (tt 71)),
     og 73 72 false (.fadr 1 (tt 8)),
     og 74 72 false (.load false 1 (tt 73)),
     og 75 72 false (.call 64 [(tt 74), (ci (-100000)), (ci 100000)]),
     og 76 72 false (.un .not (tt 75)),
     o 77 (.pick (tt 72) (cb true) (tt 76)),
     o 78 (.mov (tt 77)),
     og 79 78 false (.fadr 2 (tt 8)),
     og 80 78 false (.load false 1 (tt 79)),
     og 81 78 false (.call 64 [(tt 80), (ci 0), (ci 3)]),
     og 82 78 false (.un .not (tt 81)),
     o 83 (.pick (tt 78) (cb true) (tt 82))])
   (.cond (tt 83)
    (.seq
    (.reg [] [o 2 (.mov (cb false))])
    .ret)
    .skip))
   (.dreg [84, 85, 86, 87, 88, 89, 90, 91, 92, 93] [0, 0, 2, 0, 0, 16, 56, 120, 248, 511, 1023] [(2, 1086), (5, 1089), (7, 1091)] [o 84 (.mov (tt 3)),
     o 85 (.fadr 0 (tt 8)),
     o 86 (.load false 1 (tt 85)),
     o 87 (.mov (tt 3)),
     o 88 (.fadr 0 (tt 8)),
     o 89 (.load false 1 (tt 88)),
     o 90 (.idx 1 (tt 87) (tt 89)),
     o 91 (.load false 1 (tt 90)),
     o 92 (.bin .add (tt 91) (ci 1)),
     o 93 (.idx 1 (tt 84) (tt 86)),
     on (.store 1 (tt 93) (tt 92))]))))
  (.reg [62, 63] [o 62 (.mov (tt 7)),
    o 63 (.bin .add (tt 62) (ci 1)),
    o 7 (.mov (tt 63))])))
def ir63_L6 : Ir :=
  (.seq
  (.seq
  (.reg [94] [o 94 (.mov (tt 9)),
    o 95 (.bin .lss (tt 94) (ci 8))])
  (.cond (tt 95)
   .skip
   (.exit 6)))
  (.seq
  (.block 7
   (.seq
   (.reg [98, 99, 100, 101] [o 98 (.mov (tt 3)),
     o 99 (.mov (tt 9)),
     o 100 (.idx 1 (tt 98) (tt 99)),
     o 101 (.load false 1 (tt 100)),
     o 102 (.bin .neq (tt 101) (ci 1))])
   (.cond (tt 102)
    (.seq
    (.reg [] [o 2 (.mov (cb false))])
    .ret)
    .skip)))
  (.reg [96, 97] [o 96 (.mov (tt 9)),
    o 97 (.bin .add (tt 96) (ci 1)),
    o 9 (.mov (tt 97))])))
def ir63_T7 : Ir :=
  (.seq
  (.reg [103, 104, 105, 106] [o 103 (.fadr 0 (tt 1)),
    o 104 (.load false 1 (tt 103)),
    o 105 (.len (tt 104)),
    o 106 (.bin .eql (tt 105) (ci 7)),
    o 2 (.mov (tt 106))])
  .ret)
def ir63_T8 : Ir :=
  (.seq
  (.seq
  (.reg [] [o 9 (.mov (ci 0))])
  (.block 6
   (.loop ir63_L6)))
  ir63_T7)
def ir63_T9 : Ir :=
  (.seq
  (.seq
  (.reg [] [o 7 (.mov (ci 0))])
  (.block 4
   (.loop ir63_L5)))
  ir63_T8)
def ir63 : Ir :=
  (.seq
  (.reg [] [o 1 (.box 2 (tt 0)),
    o 2 (.mov (cb false))])
  (.seq
  (.reg [10] [o 10 (.mkSlc 1 8 [(.int .i64 0)] (ci 8) (ci 8)),
    o 3 (.mov (tt 10))])
  (.seq
  (.reg [11, 12, 13, 14] [o 11 (.mkSl 3 0 [(.int .i64 0), (.int .i64 0), (.int .i64 0)] []),
    o 12 (.fadr 1 (tt 1)),
    o 13 (.load false 1 (tt 12)),
    o 14 (.app 3 24 true (tt 11) (tt 13)),
    o 4 (.mov (tt 14))])
  (.seq
  (.seq
  (.reg [] [o 5 (.mov (ci 0))])
  (.block 0
   (.loop ir63_L4)))
  ir63_T9))))
def keep63 : List Nat := [0, 1, 2, 3, 4, 5, 6, 7, 8, 9, 19, 29, 43, 50, 61, 83, 95, 102]
def res63 : List RI := [.tmp 2]
theorem chk63 : chk Tryd.prog 63 1 keep63 = some (ir63, res63) := by kernel_rfl

def paN (l : Int) : Nat := if inB l 0 3 = true then 3 else 0
def in_sPath (x : Int) := (G0, res66, ([] : List (Nat × Ob)), [Item.ir ir66], start [AI x] [])
theorem ev_sPath : ∀ (x : Int), ev G0 res66 [] (3000 : Nat) (Or.call [] (AB (inB x (0 : Int) (3 : Int))) [] (Or.nil.split Or.nil)) [Item.ir ir66] (start [AI x] []) = VC.call (64 : Nat) [AV.p true (PV.v (Value.int IntKind.i64 x)), AV.p true (PV.v (Value.int IntKind.i64 (0 : Int))), AV.p true (PV.v (Value.int IntKind.i64 (3 : Int)))] [] (AB (inB x (0 : Int) (3 : Int))) [] (VC.split (!inB x (0 : Int) (3 : Int)) (VC.done (St.mk [((0 : Nat), AV.p true (PV.v (Value.int IntKind.i64 x))), ((2 : Nat), AV.own (6 : Nat)), ((5 : Nat), AV.p true (PV.v (Value.bool !inB x (0 : Int) (3 : Int))))] [((6 : Nat), Ob.row Mode.u true (1 : Nat) (0 : Nat) (setG [] fun (x_1 j : Nat) => PV.v ([Value.int IntKind.i64 (0 : Int)].getD j undef)) [])])) (VC.need ((2 : Int) ≠ (0 : Int)) (VC.done (St.mk [((0 : Nat), AV.p true (PV.v (Value.int IntKind.i64 x))), ((2 : Nat), AV.own (12 : Nat)), ((5 : Nat), AV.p true (PV.v (Value.bool !inB x (0 : Int) (3 : Int))))] [((12 : Nat), Ob.row Mode.u true (1 : Nat) (3 : Nat) (fun (i x_1 : Nat) => PV.v (Value.int IntKind.i64 (litI [(0 : Int), IntKind.i64.wrap ((1 : Int) + IntKind.i64.wrap (x.tdiv (2 : Int))), IntKind.i64.wrap ((3 : Int) + x)] i))) [])])))) := by intros; kernel_rfl
theorem c_sPath (x : Int) : PObj Tryd.prog G0 66 [AI x] [] (.own 0) [(0, .row .u true 1 (paN x) (PA x) [])] := by
  refine PObj.by chk66 rfl (ev_sPath x) ?_
  simp only [VC.holds_split, VC.holds_need, VC.holds_doneP, VC.holds_done, VC.holds_either, VC.holds_call, VC.holds_callE, VC.holds_lend, VC.holds_stop, VC.holds_fail, decide_eq_true_eq, decide_eq_false_iff_not]
  refine ⟨c_l1In _ _ _, fun h => ?_, fun h => ?_⟩
  · have e : paN x = 0 := by unfold paN; rw [not_t h]; rfl
    rw [e]
    refine ResOk.mk [] [(0, 6)] [] _ _ ?_ ⟨rfl, rfl⟩
    simp [doneC, resOf, resAV, tup, pinR, PV.Le_self, hbs, St.lowers, St.lower, stLe, leEnv, leObs, obLe, injB, pinC, AV.leC, AV.leCs, PV.leC, PV.Le_v, St.get, St.obj, look, rho, isNew, keptC, renH, Mode.ok, Mode.isZ, PV.isVal, PV.isNilSl, List.all_nil, List.all_cons, List.any_nil, List.any_cons, List.map_nil, List.map_cons, res66]
  · have hx := inB_iff.1 (not_f h)
    obtain ⟨w1, w2⟩ := path_w hx
    have e : paN x = 3 := by unfold paN; rw [not_f h]; rfl
    rw [e, w1, w2]
    refine ⟨by omega, ResOk.mk [] [(0, 12)] [] _ _ ?_ ⟨rfl, rfl⟩⟩
    simp [doneC, resOf, resAV, tup, pinR, PV.Le_self, hbs, St.lowers, St.lower, stLe, leEnv, leObs, obLe, injB, pinC, AV.leC, AV.leCs, PV.leC, PV.Le_v, St.get, St.obj, look, rho, isNew, keptC, renH, Mode.ok, Mode.isZ, PV.isVal, PV.isNilSl, List.all_nil, List.all_cons, List.any_nil, List.any_cons, List.map_nil, List.map_cons, res66, PA, pathL]
def in_sOn (i l : Int) := (G0, res137, ([] : List (Nat × Ob)), [Item.ir ir137], start [AI i, AI l] [])
theorem ev_sOn : ∀ (i l : Int), ev G0 res137 [] (3000 : Nat) (Or.call [] (AV.own (0 : Nat)) [((0 : Nat), Ob.row Mode.u true (1 : Nat) (paN l) (PA l) [])] Or.nil) [Item.ir ir137] (start [AI i, AI l] []) = VC.call (66 : Nat) [AV.p true (PV.v (Value.int IntKind.i64 l))] [] (AV.own (0 : Nat)) [((0 : Nat), Ob.row Mode.u true (1 : Nat) (paN l) (PA l) [])] (VC.loop ir137_L1 [Item.bend (0 : Nat), Item.ir ir137_T2] (St.mk [((0 : Nat), AV.p true (PV.v (Value.int IntKind.i64 i))), ((1 : Nat), AV.p true (PV.v (Value.int IntKind.i64 l))), ((4 : Nat), AV.p true (PV.v (Value.bool false))), ((5 : Nat), AV.own (1008 : Nat)), ((6 : Nat), AV.p true (PV.v (Value.int IntKind.i64 (0 : Int))))] [((1008 : Nat), Ob.row Mode.u true (1 : Nat) (paN l) (PA l) [])])) := by intros; kernel_rfl
def st_sOn (i l : Int) (k : Nat) : St := ⟨[(0, AI i), (4, AB false), (5, .p true (.sl true 1 (paN l) (PA l))), (6, AI k)], []⟩
def r_sOn (i l : Int) (I : Nat → St → Prop) (k : Nat) := (G0, res137, ([] : List (Nat × Ob)), [Item.ir ir137_L1, .lend (I k), Item.bend 0, Item.ir ir137_T2], st_sOn i l k)
theorem evr_sOn : ∀ (i l : Int) (I : Nat → St → Prop) (k : Nat), ev G0 res137 [] (3000 : Nat) ((Or.nil.split Or.nil).split Or.nil) [Item.ir ir137_L1, Item.lend (I k), Item.bend (0 : Nat), Item.ir ir137_T2] (st_sOn i l k) = VC.split (decide ((↑k : Int) < (↑(paN l) : Int))) (VC.need ((0 : Int) ≤ (↑k : Int) ∧ (↑k : Int).toNat < paN l) (VC.split (litI [(0 : Int), (1 : Int) + l / (2 : Int), (3 : Int) + l] (↑k : Int).toNat == i) (VC.doneP (AV.p true (PV.v (Value.bool true)))) (VC.lend (I k) (St.mk [((0 : Nat), AV.p true (PV.v (Value.int IntKind.i64 i))), ((4 : Nat), AV.p true (PV.v (Value.bool false))), ((5 : Nat), AV.p true (PV.sl true (1 : Nat) (paN l) (PA l))), ((6 : Nat), AV.p true (PV.v (Value.int IntKind.i64 (IntKind.i64.wrap ((↑k : Int) + (1 : Int)))))), ((12 : Nat), AV.p true (PV.v (Value.bool (decide ((↑k : Int) < (↑(paN l) : Int)))))), ((20 : Nat), AV.p true (PV.v (Value.bool (litI [(0 : Int), (1 : Int) + l / (2 : Int), (3 : Int) + l] (↑k : Int).toNat == i))))] [])))) (VC.doneP (AV.p true (PV.v (Value.bool false)))) := by intros; kernel_rfl
def onS (i l : Int) : Bool := inB l 0 3 && onB l i
theorem on_ix (i l : Int) : onS i l = !allB (fun j => !(litI (pathL l) j == i)) (paN l) := by
  unfold onS paN
  cases inB l 0 3 with
  | false => rfl
  | true =>
    simp only [if_true, allB, litI, pathL, onB]
    have e1 : ((0 : Int) == i) = (i == 0) := by rw [Bool.eq_iff_iff]; simp; omega
    have e2 : ((1 + l / 2) == i) = (i == 1 + l / 2) := by rw [Bool.eq_iff_iff]; simp; omega
    have e3 : ((3 + l) == i) = (i == 3 + l) := by rw [Bool.eq_iff_iff]; simp; omega
    simp only [List.getD_cons_zero, List.getD_cons_succ, e1, e2, e3]
    cases (i == 0) <;> cases (i == 1 + l / 2) <;> cases (i == 3 + l) <;> rfl
theorem c_sOn (i l : Int) : PRet Tryd.prog G0 137 [AI i, AI l] (AB (onS i l)) := by
  refine PRet.by chk137 (ev_sOn i l) ?_
  simp only [VC.holds_split, VC.holds_need, VC.holds_doneP, VC.holds_done, VC.holds_either, VC.holds_call, VC.holds_callE, VC.holds_lend, VC.holds_stop, VC.holds_fail, decide_eq_true_eq, decide_eq_false_iff_not]
  have hp : paN l ≤ 3 := by unfold paN; split <;> omega
  rw [on_ix]
  refine ⟨c_sPath _, loop_by (st_sOn i l) (fun k => k ≤ paN l ∧ ∀ j, j < k → (!(litI (pathL l) j == i)) = true) (fun k => paN l - k) 0 [(1008, .f)] [] [] (by simp) ?_ (evr_sOn i l) fun k hk => ?_⟩
  · simp [st_sOn, hbs, St.lowers, St.lower, stLe, leEnv, leObs, obLe, injB, pinC, AV.leC, AV.leCs, PV.leC, PV.Le_v, St.get, St.obj, look, rho, isNew, keptC, renH, Mode.ok, Mode.isZ, PV.isVal, PV.isNilSl, List.all_nil, List.all_cons, List.any_nil, List.any_cons, List.map_nil, List.map_cons, PV.Le_self, Mode.low, St.setOb, ins]
  · obtain ⟨hk, hall⟩ := hk
    have ek : IntKind.i64.wrap ((k : Int) + 1) = ((k + 1 : Nat) : Int) := wrap_in (by omega) (by omega)
    simp only [VC.holds_split, VC.holds_need, VC.holds_doneP, VC.holds_done, VC.holds_either, VC.holds_call, VC.holds_callE, VC.holds_lend, VC.holds_stop, VC.holds_fail, decide_eq_true_eq, decide_eq_false_iff_not, Int.toNat_natCast]
    refine ⟨fun h1 => ⟨⟨by omega, by omega⟩, fun h2 => ?_, fun h2 => Again.mk (k + 1) [] [] [] ⟨by omega, fun j hj => ?_⟩ (by omega) ?_⟩, fun h1 => ?_⟩
    · have h2' : (litI (pathL l) k == i) = true := h2
      rw [allB_no (p := fun j => !(litI (pathL l) j == i)) (k := k) (by omega) (by rw [h2']; rfl)]; simp
    · by_cases h3 : j = k
      · subst h3
        have h2' : (litI (pathL l) j == i) = false := h2
        rw [h2']; rfl
      · exact hall j (by omega)
    · simp [st_sOn, hbs, St.lowers, St.lower, stLe, leEnv, leObs, obLe, injB, pinC, AV.leC, AV.leCs, PV.leC, PV.Le_v, St.get, St.obj, look, rho, isNew, keptC, renH, Mode.ok, Mode.isZ, PV.isVal, PV.isNilSl, List.all_nil, List.all_cons, List.any_nil, List.any_cons, List.map_nil, List.map_cons, PV.Le_self, ek]
    · have : k = paN l := by omega
      subst this
      rw [allB_iff.2 hall]; simp
def in_sMV (T : List (List Blk)) (S : List Blk) := (G0, res63, ([] : List (Nat × Ob)), [Item.ir ir63], start [ME T S] [])
theorem ev_sMV : ∀ (T : List (List Blk)) (S : List Blk), ev G0 res63 [] (3000 : Nat) Or.nil [Item.ir ir63] (start [ME T S] []) = VC.need ((0 : Int) ≤ (8 : Int) ∧ (8 : Int) ≤ (8 : Int) ∧ (↑(8 : Nat) : Int) * (8 : Int) ≤ (281474976710656 : Int) ∧ (8 : Int) ≤ (9223372036854775807 : Int)) (VC.need ((((0 : Nat) + S.length) * (24 : Nat) ≤ (140737488355328 : Nat) ∧ (↑((0 : Nat) + S.length) : Int) ≤ (9223372036854775807 : Int)) ∧ allV (3 : Nat) S.length (SB S)) (VC.loop ir63_L4 [Item.bend (0 : Nat), Item.ir ir63_T9] (St.mk [((0 : Nat), AV.ag [AV.p false (PV.sl false (1 : Nat) T.length (BB T)), AV.p false (PV.sl false (3 : Nat) S.length (SB S))]), ((1 : Nat), AV.adr (1 : Nat) (0 : Nat)), ((2 : Nat), AV.p true (PV.v (Value.bool false))), ((3 : Nat), AV.own (10 : Nat)), ((4 : Nat), AV.own (14 : Nat)), ((5 : Nat), AV.p true (PV.v (Value.int IntKind.i64 (0 : Int))))] [((1 : Nat), Ob.box [AV.p false (PV.sl false (1 : Nat) T.length (BB T)), AV.p false (PV.sl false (3 : Nat) S.length (SB S))]), ((10 : Nat), Ob.row Mode.u true (1 : Nat) (8 : Nat) (fun (x j : Nat) => PV.v ([Value.int IntKind.i64 (0 : Int)].getD j undef)) []), ((14 : Nat), Ob.row Mode.u true (3 : Nat) ((0 : Nat) + S.length) (fun (a b : Nat) => if a < (0 : Nat) then setG [] (fun (x j : Nat) => PV.v ([Value.int IntKind.i64 (0 : Int), Value.int IntKind.i64 (0 : Int), Value.int IntKind.i64 (0 : Int)].getD j undef)) a b else SB S (a - (0 : Nat)) b) [])]))) := by intros; kernel_rfl
abbrev ZR : Nat → Nat → PV := fun _ _ => PI 0
abbrev MBX (T : List (List Blk)) (S : List Blk) : Ob := .box [BL false T, BS false S]
def st_sMV (T : List (List Blk)) (S : List Blk) (k : Nat) : St := ⟨[(1, .adr 1 0), (2, AB false), (3, .own 10), (4, .own 14), (5, AI k)], [(1, MBX T S), (10, .row .u true 1 8 ZR []), (14, .row .u true 3 (S ++ (T.take k).flatten).length (SB (S ++ (T.take k).flatten)) [])]⟩
def r_sMV (T : List (List Blk)) (S : List Blk) (I : Nat → St → Prop) (k : Nat) := (G0, res63, ([] : List (Nat × Ob)), [Item.ir ir63_L4, .lend (I k), Item.bend 0, Item.ir ir63_T9], st_sMV T S k)
theorem evr_sMV : ∀ (T : List (List Blk)) (S : List Blk) (I : Nat → St → Prop) (k : Nat), ev G0 res63 [] (3000 : Nat) (Or.nil.split Or.nil) [Item.ir ir63_L4, Item.lend (I k), Item.bend (0 : Nat), Item.ir ir63_T9] (st_sMV T S k) = VC.split (decide ((↑k : Int) < (↑T.length : Int))) (VC.loop ir63_L1 [Item.bend (2 : Nat), Item.ir ir63_T2, Item.bend (1 : Nat), Item.ir ir63_T3, Item.lend (I k), Item.bend (0 : Nat), Item.ir ir63_T9] (St.mk [((1 : Nat), AV.adr (1 : Nat) (0 : Nat)), ((2 : Nat), AV.p true (PV.v (Value.bool false))), ((3 : Nat), AV.own (10 : Nat)), ((4 : Nat), AV.own (14 : Nat)), ((5 : Nat), AV.p true (PV.v (Value.int IntKind.i64 (↑k : Int)))), ((19 : Nat), AV.p true (PV.v (Value.bool (decide ((↑k : Int) < (↑T.length : Int)))))), ((6 : Nat), AV.p true (PV.v (Value.int IntKind.i64 (0 : Int))))] [((1 : Nat), Ob.box [AV.p false (PV.sl false (1 : Nat) T.length (BB T)), AV.p false (PV.sl false (3 : Nat) S.length (SB S))]), ((10 : Nat), Ob.row Mode.u true (1 : Nat) (8 : Nat) ZR []), ((14 : Nat), Ob.row Mode.u true (3 : Nat) (S ++ (List.take k T).flatten).length (SB (S ++ (List.take k T).flatten)) [])])) (VC.loop ir63_L5 [Item.bend (4 : Nat), Item.ir ir63_T8] (St.mk [((1 : Nat), AV.adr (1 : Nat) (0 : Nat)), ((2 : Nat), AV.p true (PV.v (Value.bool false))), ((3 : Nat), AV.own (10 : Nat)), ((4 : Nat), AV.own (14 : Nat)), ((5 : Nat), AV.p true (PV.v (Value.int IntKind.i64 (↑k : Int)))), ((19 : Nat), AV.p true (PV.v (Value.bool (decide ((↑k : Int) < (↑T.length : Int)))))), ((7 : Nat), AV.p true (PV.v (Value.int IntKind.i64 (0 : Int))))] [((1 : Nat), Ob.box [AV.p false (PV.sl false (1 : Nat) T.length (BB T)), AV.p false (PV.sl false (3 : Nat) S.length (SB S))]), ((10 : Nat), Ob.row Mode.u true (1 : Nat) (8 : Nat) ZR []), ((14 : Nat), Ob.row Mode.u true (3 : Nat) (S ++ (List.take k T).flatten).length (SB (S ++ (List.take k T).flatten)) [])])) := by intros; kernel_rfl
def st_sMV1 (T : List (List Blk)) (S : List Blk) (k j : Nat) : St := ⟨[(1, .adr 1 0), (2, AB false), (3, .own 10), (4, .own 14), (5, AI k), (6, AI j)], [(1, MBX T S), (10, .row .u true 1 8 ZR []), (14, .row .u true 3 (S ++ (T.take k).flatten).length (SB (S ++ (T.take k).flatten)) [])]⟩
def r_sMV1 (T : List (List Blk)) (S : List Blk) (I : Nat → St → Prop) (k : Nat) (J : Nat → St → Prop) (j : Nat) := (G0, res63, ([] : List (Nat × Ob)), [Item.ir ir63_L1, .lend (J j), Item.bend 2, Item.ir ir63_T2, Item.bend 1, Item.ir ir63_T3, .lend (I k), Item.bend 0, Item.ir ir63_T9], st_sMV1 T S k j)
theorem evr_sMV1 : ∀ (T : List (List Blk)) (S : List Blk) (I : Nat → St → Prop) (k : Nat) (J : Nat → St → Prop) (j : Nat), ev G0 res63 [] (3000 : Nat) ((Or.call [] (AB (onS (↑k : Int) (((T.getD (↑k : Int).toNat []).getD (↑j : Int).toNat b0).col ((2 : Nat) + (0 : Nat))))) [] (Or.nil.split Or.nil)).split (Or.nil.split Or.nil)) [Item.ir ir63_L1, Item.lend (J j), Item.bend (2 : Nat), Item.ir ir63_T2, Item.bend (1 : Nat), Item.ir ir63_T3, Item.lend (I k), Item.bend (0 : Nat), Item.ir ir63_T9] (st_sMV1 T S k j) = VC.need ((0 : Int) ≤ (↑k : Int) ∧ (↑k : Int).toNat < T.length) (VC.split (decide ((↑j : Int) < (↑(T.getD (↑k : Int).toNat []).length : Int))) (VC.need ((0 : Int) ≤ (↑k : Int) ∧ (↑k : Int).toNat < T.length) (VC.need ((0 : Int) ≤ (↑j : Int) ∧ (↑j : Int).toNat < (T.getD (↑k : Int).toNat []).length) (VC.call (137 : Nat) [AV.p true (PV.v (Value.int IntKind.i64 (↑k : Int))), AV.p true (PV.v (Value.int IntKind.i64 (((T.getD (↑k : Int).toNat []).getD (↑j : Int).toNat b0).col ((2 : Nat) + (0 : Nat)))))] [] (AB (onS (↑k : Int) (((T.getD (↑k : Int).toNat []).getD (↑j : Int).toNat b0).col ((2 : Nat) + (0 : Nat))))) [] (VC.split (!onS (↑k : Int) (((T.getD (↑k : Int).toNat []).getD (↑j : Int).toNat b0).col ((2 : Nat) + (0 : Nat)))) (VC.doneP (AV.p true (PV.v (Value.bool false)))) (VC.lend (J j) (St.mk [((1 : Nat), AV.adr (1 : Nat) (0 : Nat)), ((2 : Nat), AV.p true (PV.v (Value.bool false))), ((3 : Nat), AV.own (10 : Nat)), ((4 : Nat), AV.own (14 : Nat)), ((5 : Nat), AV.p true (PV.v (Value.int IntKind.i64 (↑k : Int)))), ((6 : Nat), AV.p true (PV.v (Value.int IntKind.i64 (IntKind.i64.wrap ((↑j : Int) + (1 : Int)))))), ((29 : Nat), AV.p true (PV.v (Value.bool (decide ((↑j : Int) < (↑(T.getD (↑k : Int).toNat []).length : Int)))))), ((43 : Nat), AV.p true (PV.v (Value.bool !onS (↑k : Int) (((T.getD (↑k : Int).toNat []).getD (↑j : Int).toNat b0).col ((2 : Nat) + (0 : Nat))))))] [((1 : Nat), Ob.box [AV.p false (PV.sl false (1 : Nat) T.length (BB T)), AV.p false (PV.sl false (3 : Nat) S.length (SB S))]), ((10 : Nat), Ob.row Mode.u true (1 : Nat) (8 : Nat) ZR []), ((14 : Nat), Ob.row Mode.u true (3 : Nat) (S ++ (List.take k T).flatten).length (SB (S ++ (List.take k T).flatten)) [])])))))) (VC.need ((0 : Int) ≤ (↑k : Int) ∧ (↑k : Int).toNat < T.length) (VC.split (decide ((2 : Int) < (↑(T.getD (↑k : Int).toNat []).length : Int))) (VC.doneP (AV.p true (PV.v (Value.bool false)))) (VC.need ((0 : Int) ≤ (↑k : Int) ∧ (↑k : Int).toNat < T.length) (VC.need ((((S ++ (List.take k T).flatten).length + (T.getD (↑k : Int).toNat []).length) * (24 : Nat) ≤ (140737488355328 : Nat) ∧ (↑((S ++ (List.take k T).flatten).length + (T.getD (↑k : Int).toNat []).length) : Int) ≤ (9223372036854775807 : Int)) ∧ allV (3 : Nat) (T.getD (↑k : Int).toNat []).length (SB (T.getD (↑k : Int).toNat []))) (VC.lend (I k) (St.mk [((1 : Nat), AV.adr (1 : Nat) (0 : Nat)), ((2 : Nat), AV.p true (PV.v (Value.bool false))), ((3 : Nat), AV.own (10 : Nat)), ((4 : Nat), AV.own (57 : Nat)), ((5 : Nat), AV.p true (PV.v (Value.int IntKind.i64 (IntKind.i64.wrap ((↑k : Int) + (1 : Int)))))), ((6 : Nat), AV.p true (PV.v (Value.int IntKind.i64 (↑j : Int)))), ((29 : Nat), AV.p true (PV.v (Value.bool (decide ((↑j : Int) < (↑(T.getD (↑k : Int).toNat []).length : Int)))))), ((50 : Nat), AV.p true (PV.v (Value.bool (decide ((2 : Int) < (↑(T.getD (↑k : Int).toNat []).length : Int))))))] [((1 : Nat), Ob.box [AV.p false (PV.sl false (1 : Nat) T.length (BB T)), AV.p false (PV.sl false (3 : Nat) S.length (SB S))]), ((10 : Nat), Ob.row Mode.u true (1 : Nat) (8 : Nat) ZR []), ((57 : Nat), Ob.row Mode.u true (3 : Nat) ((S ++ (List.take k T).flatten).length + (T.getD (↑k : Int).toNat []).length) (fun (a b : Nat) => if a < (S ++ (List.take k T).flatten).length then SB (S ++ (List.take k T).flatten) a b else SB (T.getD (↑k : Int).toNat []) (a - (S ++ (List.take k T).flatten).length) b) [])]))))))) := by intros; kernel_rfl
def cntN (A : List Blk) : Nat → Int → Nat
  | 0, _ => 0
  | k + 1, x => cntN A k x + if (A.getD k b0).a = x then 1 else 0
abbrev CR (A : List Blk) (k : Nat) : Nat → Nat → PV := fun i _ => PI (cntN A k i : Nat)
def st_sMV5 (T : List (List Blk)) (S A : List Blk) (k : Nat) : St := ⟨[(1, .adr 1 0), (2, AB false), (3, .own 10), (4, .p true (.sl true 3 A.length (SB A))), (7, AI k)], [(1, MBX T S), (10, .row .u true 1 8 (CR A k) [])]⟩
def r_sMV5 (T : List (List Blk)) (S A : List Blk) (I : Nat → St → Prop) (k : Nat) := (G0, res63, ([] : List (Nat × Ob)), [Item.ir ir63_L5, .lend (I k), Item.bend 4, Item.ir ir63_T8], st_sMV5 T S A k)
theorem evr_sMV5 : ∀ (T : List (List Blk)) (S A : List Blk) (I : Nat → St → Prop) (k : Nat), ev G0 res63 [] (3000 : Nat) ((Or.call [] (AB (inB ((A.getD (↑k : Int).toNat b0).col (nat_lit 0)) (0 : Int) (7 : Int))) [] (Or.nil.lit.lit.lit.lit.lit.lit.lit.lit.lit.lit.split (Or.call [] (AB (inB ((A.getD (↑k : Int).toNat b0).col (nat_lit 1)) (-100000 : Int) (100000 : Int))) [] (Or.nil.lit.lit.lit.lit.lit.split (Or.call [] (AB (inB ((A.getD (↑k : Int).toNat b0).col (nat_lit 2)) (0 : Int) (3 : Int))) [] (Or.nil.split Or.nil).lit.lit).lit.lit).lit.lit).lit.lit)).split Or.nil) [Item.ir ir63_L5, Item.lend (I k), Item.bend (4 : Nat), Item.ir ir63_T8] (st_sMV5 T S A k) = VC.split (decide ((↑k : Int) < (↑A.length : Int))) (VC.need ((0 : Int) ≤ (↑k : Int) ∧ (↑k : Int).toNat < A.length) (VC.call (64 : Nat) [AV.p true (PV.v (Value.int IntKind.i64 ((A.getD (↑k : Int).toNat b0).col (nat_lit 0)))), AV.p true (PV.v (Value.int IntKind.i64 (0 : Int))), AV.p true (PV.v (Value.int IntKind.i64 (7 : Int)))] [] (AB (inB ((A.getD (↑k : Int).toNat b0).col (nat_lit 0)) (0 : Int) (7 : Int))) [] (VC.split (!inB ((A.getD (↑k : Int).toNat b0).col (nat_lit 0)) (0 : Int) (7 : Int)) (VC.doneP (AV.p true (PV.v (Value.bool false)))) (VC.call (64 : Nat) [AV.p true (PV.v (Value.int IntKind.i64 ((A.getD (↑k : Int).toNat b0).col (nat_lit 1)))), AV.p true (PV.v (Value.int IntKind.i64 (-100000 : Int))), AV.p true (PV.v (Value.int IntKind.i64 (100000 : Int)))] [] (AB (inB ((A.getD (↑k : Int).toNat b0).col (nat_lit 1)) (-100000 : Int) (100000 : Int))) [] (VC.split (!inB ((A.getD (↑k : Int).toNat b0).col (nat_lit 1)) (-100000 : Int) (100000 : Int)) (VC.doneP (AV.p true (PV.v (Value.bool false)))) (VC.call (64 : Nat) [AV.p true (PV.v (Value.int IntKind.i64 ((A.getD (↑k : Int).toNat b0).col (nat_lit 2)))), AV.p true (PV.v (Value.int IntKind.i64 (0 : Int))), AV.p true (PV.v (Value.int IntKind.i64 (3 : Int)))] [] (AB (inB ((A.getD (↑k : Int).toNat b0).col (nat_lit 2)) (0 : Int) (3 : Int))) [] (VC.split (!inB ((A.getD (↑k : Int).toNat b0).col (nat_lit 2)) (0 : Int) (3 : Int)) (VC.doneP (AV.p true (PV.v (Value.bool false)))) (VC.need ((0 : Int) ≤ (A.getD (↑k : Int).toNat b0).col (nat_lit 0) ∧ ((A.getD (↑k : Int).toNat b0).col (nat_lit 0)).toNat < (8 : Nat)) (VC.need (((A.getD (↑k : Int).toNat b0).col (nat_lit 0)).toNat < (8 : Nat)) (VC.need ((0 : Int) ≤ (A.getD (↑k : Int).toNat b0).col (nat_lit 0) ∧ ((A.getD (↑k : Int).toNat b0).col (nat_lit 0)).toNat < (8 : Nat)) (VC.need (((A.getD (↑k : Int).toNat b0).col (nat_lit 0)).toNat < (8 : Nat)) (VC.lend (I k) (St.mk [((1 : Nat), AV.adr (1 : Nat) (0 : Nat)), ((2 : Nat), AV.p true (PV.v (Value.bool false))), ((3 : Nat), AV.own (10 : Nat)), ((4 : Nat), AV.p true (PV.sl true (3 : Nat) A.length (SB A))), ((7 : Nat), AV.p true (PV.v (Value.int IntKind.i64 (IntKind.i64.wrap ((↑k : Int) + (1 : Int)))))), ((61 : Nat), AV.p true (PV.v (Value.bool (decide ((↑k : Int) < (↑A.length : Int)))))), ((8 : Nat), AV.adr (8 : Nat) (0 : Nat)), ((83 : Nat), AV.p true (PV.v (Value.bool !inB ((A.getD (↑k : Int).toNat b0).col (nat_lit 2)) (0 : Int) (3 : Int))))] [((1 : Nat), Ob.box [AV.p false (PV.sl false (1 : Nat) T.length (BB T)), AV.p false (PV.sl false (3 : Nat) S.length (SB S))]), ((10 : Nat), Ob.row Mode.u true (1 : Nat) (8 : Nat) (setG [(((A.getD (↑k : Int).toNat b0).col (nat_lit 0)).toNat, (0 : Nat), PV.v (Value.int IntKind.i64 (IntKind.i64.wrap ((↑(cntN A k (↑((A.getD (↑k : Int).toNat b0).col (nat_lit 0)).toNat : Int)) : Int) + (1 : Int)))))] (CR A k)) []), ((8 : Nat), Ob.box [AV.p true (PV.v (Value.int IntKind.i64 ((A.getD (↑k : Int).toNat b0).col (nat_lit 0)))), AV.p true (PV.v (Value.int IntKind.i64 ((A.getD (↑k : Int).toNat b0).col (nat_lit 1)))), AV.p true (PV.v (Value.int IntKind.i64 ((A.getD (↑k : Int).toNat b0).col (nat_lit 2))))])]))))))))))))) (VC.loop ir63_L6 [Item.bend (6 : Nat), Item.ir ir63_T7] (St.mk [((1 : Nat), AV.adr (1 : Nat) (0 : Nat)), ((2 : Nat), AV.p true (PV.v (Value.bool false))), ((3 : Nat), AV.own (10 : Nat)), ((4 : Nat), AV.p true (PV.sl true (3 : Nat) A.length (SB A))), ((7 : Nat), AV.p true (PV.v (Value.int IntKind.i64 (↑k : Int)))), ((61 : Nat), AV.p true (PV.v (Value.bool (decide ((↑k : Int) < (↑A.length : Int)))))), ((9 : Nat), AV.p true (PV.v (Value.int IntKind.i64 (0 : Int))))] [((1 : Nat), Ob.box [AV.p false (PV.sl false (1 : Nat) T.length (BB T)), AV.p false (PV.sl false (3 : Nat) S.length (SB S))]), ((10 : Nat), Ob.row Mode.u true (1 : Nat) (8 : Nat) (CR A k) [])])) := by intros; kernel_rfl
def st_sMV6 (T : List (List Blk)) (S A : List Blk) (k : Nat) : St := ⟨[(1, .adr 1 0), (2, AB false), (3, .own 10), (9, AI k)], [(1, MBX T S), (10, .row .u true 1 8 (CR A A.length) [])]⟩
def r_sMV6 (T : List (List Blk)) (S A : List Blk) (I : Nat → St → Prop) (k : Nat) := (G0, res63, ([] : List (Nat × Ob)), [Item.ir ir63_L6, .lend (I k), Item.bend 6, Item.ir ir63_T7], st_sMV6 T S A k)
theorem evr_sMV6 : ∀ (T : List (List Blk)) (S A : List Blk) (I : Nat → St → Prop) (k : Nat), ev G0 res63 [] (3000 : Nat) ((Or.nil.split Or.nil).split Or.nil) [Item.ir ir63_L6, Item.lend (I k), Item.bend (6 : Nat), Item.ir ir63_T7] (st_sMV6 T S A k) = VC.split (decide ((↑k : Int) < (8 : Int))) (VC.need ((0 : Int) ≤ (↑k : Int) ∧ (↑k : Int).toNat < (8 : Nat)) (VC.need ((↑k : Int).toNat < (8 : Nat)) (VC.split ((↑(cntN A A.length (↑(↑k : Int).toNat : Int)) : Int) != (1 : Int)) (VC.doneP (AV.p true (PV.v (Value.bool false)))) (VC.lend (I k) (St.mk [((1 : Nat), AV.adr (1 : Nat) (0 : Nat)), ((2 : Nat), AV.p true (PV.v (Value.bool false))), ((3 : Nat), AV.own (10 : Nat)), ((9 : Nat), AV.p true (PV.v (Value.int IntKind.i64 (IntKind.i64.wrap ((↑k : Int) + (1 : Int)))))), ((95 : Nat), AV.p true (PV.v (Value.bool (decide ((↑k : Int) < (8 : Int)))))), ((102 : Nat), AV.p true (PV.v (Value.bool ((↑(cntN A A.length (↑(↑k : Int).toNat : Int)) : Int) != (1 : Int)))))] [((1 : Nat), Ob.box [AV.p false (PV.sl false (1 : Nat) T.length (BB T)), AV.p false (PV.sl false (3 : Nat) S.length (SB S))]), ((10 : Nat), Ob.row Mode.u true (1 : Nat) (8 : Nat) (CR A A.length) [])]))))) (VC.doneP (AV.p true (PV.v (Value.bool ((↑T.length : Int) == (7 : Int)))))) := by intros; kernel_rfl
def sbuB (T : List (List Blk)) (i : Nat) : Bool := allB (fun j => onS i ((T.getD i []).getD j b0).l) (T.getD i []).length && decide ((T.getD i []).length ≤ 2)
def smB (T : List (List Blk)) (S : List Blk) : Bool := allB (sbuB T) T.length && allB (fun j => okB ((S ++ T.flatten).getD j b0)) (S ++ T.flatten).length && allB (fun x => decide (cntN (S ++ T.flatten) (S ++ T.flatten).length (x : Nat) = 1)) 8 && decide (T.length = 7)
theorem cnt_le (A : List Blk) (x : Int) : ∀ k, cntN A k x ≤ k
  | 0 => Nat.le_refl _
  | k + 1 => by
    have := cnt_le A x k
    simp only [cntN]; split <;> omega
theorem c_smB (T : List (List Blk)) (S : List Blk) (hT : T.length ≤ 1048576) (hS : S.length + T.flatten.length ≤ 1048576) : PRet Tryd.prog G0 63 [ME T S] (AB (smB T S)) := by
  refine PRet.by chk63 (ev_sMV T S) ?_
  simp only [VC.holds_split, VC.holds_need, VC.holds_doneP, VC.holds_done, VC.holds_either, VC.holds_call, VC.holds_callE, VC.holds_lend, VC.holds_stop, VC.holds_fail, decide_eq_true_eq, decide_eq_false_iff_not]
  refine ⟨by simp, ⟨⟨by omega, by omega⟩, allV_SB⟩, loop_by (st_sMV T S) (fun k => k ≤ T.length ∧ ∀ i, i < k → sbuB T i = true) (fun k => T.length - k) 0 [] [] [] (by simp) ?_ (evr_sMV T S) fun k hk => ?_⟩
  · simp [st_sMV, hbs, St.lowers, St.lower, stLe, leEnv, leObs, obLe, injB, pinC, AV.leC, AV.leCs, PV.leC, PV.Le_v, St.get, St.obj, look, rho, isNew, keptC, renH, Mode.ok, Mode.isZ, PV.isVal, PV.isNilSl, List.all_nil, List.all_cons, List.any_nil, List.any_cons, List.map_nil, List.map_cons, PV.Le_self]
  · obtain ⟨hk, hall⟩ := hk
    have ek : IntKind.i64.wrap ((k : Int) + 1) = ((k + 1 : Nat) : Int) := wrap_in (by omega) (by omega)
    have bad : k < T.length → sbuB T k = false → smB T S = false := fun h1 h2 => by
      unfold smB; rw [allB_no h1 h2]; simp
    simp only [VC.holds_split, VC.holds_need, VC.holds_doneP, VC.holds_done, VC.holds_either, VC.holds_call, VC.holds_callE, VC.holds_lend, VC.holds_stop, VC.holds_fail, decide_eq_true_eq, decide_eq_false_iff_not, Int.toNat_natCast]
    refine ⟨fun h0 => ?_, fun h0 => ?_⟩
    · have hkT : k < T.length := by omega
      have b1 := flat_le T (k + 1)
      rw [take_flat hkT, List.length_append] at b1
      refine loop_by (st_sMV1 T S k) (fun j => j ≤ (T.getD k []).length ∧ ∀ a, a < j → onS k ((T.getD k []).getD a b0).l = true) (fun j => (T.getD k []).length - j) 0 [] [] [] (by simp) ?_ (fun J j => evr_sMV1 T S _ k J j) fun j hj => ?_
      · simp [st_sMV1, hbs, St.lowers, St.lower, stLe, leEnv, leObs, obLe, injB, pinC, AV.leC, AV.leCs, PV.leC, PV.Le_v, St.get, St.obj, look, rho, isNew, keptC, renH, Mode.ok, Mode.isZ, PV.isVal, PV.isNilSl, List.all_nil, List.all_cons, List.any_nil, List.any_cons, List.map_nil, List.map_cons, PV.Le_self]
      · obtain ⟨hj, hal⟩ := hj
        have ej : IntKind.i64.wrap ((j : Int) + 1) = ((j + 1 : Nat) : Int) := wrap_in (by omega) (by omega)
        simp only [VC.holds_split, VC.holds_need, VC.holds_doneP, VC.holds_done, VC.holds_either, VC.holds_call, VC.holds_callE, VC.holds_lend, VC.holds_stop, VC.holds_fail, decide_eq_true_eq, decide_eq_false_iff_not, Int.toNat_natCast]
        refine ⟨⟨by omega, by omega⟩, fun h1 => ⟨⟨by omega, by omega⟩, ⟨by omega, by omega⟩, c_sOn _ _, fun h2 => ?_, fun h2 => Again.mk (j + 1) [] [] [] ⟨by omega, fun a ha => ?_⟩ (by omega) ?_⟩, fun h1 => ⟨⟨by omega, by omega⟩, fun h2 => ?_, fun h2 => ⟨⟨by omega, by omega⟩, ⟨⟨by rw [List.length_append]; omega, by rw [List.length_append]; omega⟩, allV_SB⟩, Again.mk (k + 1) [] [(14, 57)] [] ⟨by omega, fun i hi => ?_⟩ (by omega) ?_⟩⟩⟩
        · rw [bad hkT (by unfold sbuB; rw [allB_no (p := fun a => onS k ((T.getD k []).getD a b0).l) (k := j) (by omega) (not_t h2)]; rfl)]; simp
        · by_cases h3 : a = j
          · subst h3; exact not_f h2
          · exact hal a (by omega)
        · simp [st_sMV1, hbs, St.lowers, St.lower, stLe, leEnv, leObs, obLe, injB, pinC, AV.leC, AV.leCs, PV.leC, PV.Le_v, St.get, St.obj, look, rho, isNew, keptC, renH, Mode.ok, Mode.isZ, PV.isVal, PV.isNilSl, List.all_nil, List.all_cons, List.any_nil, List.any_cons, List.map_nil, List.map_cons, PV.Le_self, ej]
        · have e : ¬ (T.getD k []).length ≤ 2 := by omega
          rw [bad hkT (by unfold sbuB; simp only [e]; simp)]; simp
        · by_cases h3 : i = k
          · subst h3
            have e1 : j = (T.getD i []).length := by omega
            subst e1
            have e2 : (T.getD i []).length ≤ 2 := by omega
            unfold sbuB; rw [allB_iff.2 hal]; simp only [e2]; rfl
          · exact hall i (by omega)
        · have e : S ++ (T.take (k + 1)).flatten = (S ++ (T.take k).flatten) ++ T.getD k [] := by rw [take_flat hkT, List.append_assoc]
          simp only [st_sMV, e]
          generalize S ++ (T.take k).flatten = A
          simp [hbs, St.lowers, St.lower, stLe, leEnv, leObs, obLe, injB, pinC, AV.leC, AV.leCs, PV.leC, PV.Le_v, St.get, St.obj, look, rho, isNew, keptC, renH, Mode.ok, Mode.isZ, PV.isVal, PV.isNilSl, List.all_nil, List.all_cons, List.any_nil, List.any_cons, List.map_nil, List.map_cons, PV.Le_self, ek]
          intro i j hi hj
          exact SB_app
    · have : k = T.length := by omega
      subst this
      rw [List.take_length]
      have hA : (S ++ T.flatten).length ≤ 1048576 := by rw [List.length_append]; omega
      unfold smB
      rw [show allB (sbuB T) T.length = true from allB_iff.2 hall]
      generalize S ++ T.flatten = A at *
      refine loop_by (st_sMV5 T S A) (fun k => k ≤ A.length ∧ ∀ i, i < k → okB (A.getD i b0) = true) (fun k => A.length - k) 0 [(14, .f)] [] [] (by simp) ?_ (evr_sMV5 T S A) fun k hk => ?_
      · simp [st_sMV5, hbs, St.lowers, St.lower, stLe, leEnv, leObs, obLe, injB, pinC, AV.leC, AV.leCs, PV.leC, PV.Le_v, St.get, St.obj, look, rho, isNew, keptC, renH, Mode.ok, Mode.isZ, PV.isVal, PV.isNilSl, List.all_nil, List.all_cons, List.any_nil, List.any_cons, List.map_nil, List.map_cons, PV.Le_self, Mode.low, St.setOb, ins]
        intro i hi
        simp [cntN]
      · obtain ⟨hk, hal⟩ := hk
        have ek : IntKind.i64.wrap ((k : Int) + 1) = ((k + 1 : Nat) : Int) := wrap_in (by omega) (by omega)
        have bad2 : k < A.length → okB (A.getD k b0) = false → (true && allB (fun j => okB (A.getD j b0)) A.length && allB (fun x => decide (cntN A A.length (x : Nat) = 1)) 8 && decide (T.length = 7)) = false := fun h1 h2 => by
          rw [allB_no (p := fun j => okB (A.getD j b0)) h1 h2]; simp
        simp only [VC.holds_split, VC.holds_need, VC.holds_doneP, VC.holds_done, VC.holds_either, VC.holds_call, VC.holds_callE, VC.holds_lend, VC.holds_stop, VC.holds_fail, decide_eq_true_eq, decide_eq_false_iff_not, Int.toNat_natCast]
        refine ⟨fun h1 => ⟨⟨by omega, by omega⟩, c_l1In _ _ _, fun h2 => ?_, fun h2 => ⟨c_l1In _ _ _, fun h3 => ?_, fun h3 => ⟨c_l1In _ _ _, fun h4 => ?_, fun h4 => ?_⟩⟩⟩, fun h1 => ?_⟩
        · have e : inB (A.getD k b0).a 0 7 = false := not_t h2
          rw [bad2 (by omega) (by simp only [okB, e, Bool.false_and])]; simp
        · have e : valB (A.getD k b0).v = false := not_t h3
          rw [bad2 (by omega) (by simp only [okB, e, Bool.false_and, Bool.and_false])]; simp
        · have e : inB (A.getD k b0).l 0 3 = false := not_t h4
          rw [bad2 (by omega) (by simp only [okB, e, Bool.false_and, Bool.and_false])]; simp
        · have e1 : inB (A.getD k b0).a 0 7 = true := not_f h2
          have e2 : valB (A.getD k b0).v = true := not_f h3
          have e3 : inB (A.getD k b0).l 0 3 = true := not_f h4
          have ra := inB_iff.1 e1
          have c0 : (A.getD k b0).col 0 = (A.getD k b0).a := rfl
          obtain ⟨a, ha⟩ : ∃ a : Nat, (A.getD k b0).a = a := ⟨(A.getD k b0).a.toNat, by omega⟩
          have hc := cnt_le A a k
          have wc : IntKind.i64.wrap ((cntN A k a : Nat) + 1) = ((cntN A k a + 1 : Nat) : Int) := (wrap_in (by omega) (by omega)).trans (by omega)
          simp only [c0, ha, Int.toNat_natCast, wc]
          refine ⟨⟨by omega, by omega⟩, by omega, ⟨by omega, by omega⟩, by omega, Again.mk (k + 1) [] [] [] ⟨by omega, fun i hi => ?_⟩ (by omega) ?_⟩
          · by_cases h5 : i = k
            · subst h5; simp only [okB, e1, e2, e3]; rfl
            · exact hal i (by omega)
          · have hu : ∀ i : Nat, cntN A (k + 1) (i : Int) = cntN A k i + if i = a then 1 else 0 := fun i => by
              simp only [cntN, ha]
              by_cases h5 : i = a
              · subst h5; simp
              · have : ¬ (a : Int) = (i : Int) := by omega
                rw [if_neg this, if_neg h5]
            simp only [st_sMV5, CR, hu]
            simp [hbs, St.lowers, St.lower, stLe, leEnv, leObs, obLe, injB, pinC, AV.leC, AV.leCs, PV.leC, PV.Le_v, St.get, St.obj, look, rho, isNew, keptC, renH, Mode.ok, Mode.isZ, PV.isVal, PV.isNilSl, List.all_nil, List.all_cons, List.any_nil, List.any_cons, List.map_nil, List.map_cons, PV.Le_self, ek]
            intro i hi
            by_cases h5 : i = a
            · subst h5
              simp [setG, cellSet]
              show PV.Le (PI _) (PI _)
              rw [hu]; simp; exact .refl _
            · simp [setG, cellSet, h5]
              show PV.Le (PI _) (PI _)
              rw [hu]; simp [h5]; exact .refl _
        · have : k = A.length := by omega
          subst this
          rw [show allB (fun j => okB (A.getD j b0)) A.length = true from allB_iff.2 hal]
          refine loop_by (st_sMV6 T S A) (fun k => k ≤ 8 ∧ ∀ i : Nat, i < k → decide (cntN A A.length (i : Nat) = 1) = true) (fun k => 8 - k) 0 [] [] [] (by simp) ?_ (evr_sMV6 T S A) fun k hk => ?_
          · simp [st_sMV6, hbs, St.lowers, St.lower, stLe, leEnv, leObs, obLe, injB, pinC, AV.leC, AV.leCs, PV.leC, PV.Le_v, St.get, St.obj, look, rho, isNew, keptC, renH, Mode.ok, Mode.isZ, PV.isVal, PV.isNilSl, List.all_nil, List.all_cons, List.any_nil, List.any_cons, List.map_nil, List.map_cons, PV.Le_self]
          · obtain ⟨hk, ha8⟩ := hk
            have ek : IntKind.i64.wrap ((k : Int) + 1) = ((k + 1 : Nat) : Int) := wrap_in (by omega) (by omega)
            simp only [VC.holds_split, VC.holds_need, VC.holds_doneP, VC.holds_done, VC.holds_either, VC.holds_call, VC.holds_callE, VC.holds_lend, VC.holds_stop, VC.holds_fail, decide_eq_true_eq, decide_eq_false_iff_not, Int.toNat_natCast]
            refine ⟨fun h2 => ⟨⟨by omega, by omega⟩, by omega, fun h3 => ?_, fun h3 => Again.mk (k + 1) [] [] [] ⟨by omega, fun i hi => ?_⟩ (by omega) ?_⟩, fun h2 => ?_⟩
            · have e : decide (cntN A A.length (k : Nat) = 1) = false := by simp at h3 ⊢; omega
              rw [allB_no (p := fun x : Nat => decide (cntN A A.length (x : Nat) = 1)) (k := k) (by omega) e]; simp
            · by_cases h5 : i = k
              · subst h5; simp at h3 ⊢; omega
              · have := ha8 i (by omega)
                simpa using this
            · simp [st_sMV6, hbs, St.lowers, St.lower, stLe, leEnv, leObs, obLe, injB, pinC, AV.leC, AV.leCs, PV.leC, PV.Le_v, St.get, St.obj, look, rho, isNew, keptC, renH, Mode.ok, Mode.isZ, PV.isVal, PV.isNilSl, List.all_nil, List.all_cons, List.any_nil, List.any_cons, List.map_nil, List.map_cons, PV.Le_self, ek]
            · have : k = 8 := by omega
              subst this
              rw [show allB (fun x : Nat => decide (cntN A A.length (x : Nat) = 1)) 8 = true from allB_iff.2 ha8]
              have e8 : ((T.length : Int) == 7) = decide (T.length = 7) := by rw [Bool.eq_iff_iff]; simp; omega
              rw [e8]; simp
end Go.Gw
