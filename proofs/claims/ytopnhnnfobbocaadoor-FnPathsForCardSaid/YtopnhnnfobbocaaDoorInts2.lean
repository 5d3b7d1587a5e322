/- Rows of whole numbers: compared, written over, read again; with no condition. -/
import Derived.KernelRfl
import Derived.Test.YtopnhnnfobbocaaDoorInts
namespace Go.Gw
open Go Go.Proofs
set_option linter.unusedSimpArgs false
set_option linter.unusedVariables false
set_option maxRecDepth 100000
def ir143_L1 : Ir :=
  (.seq
  (.seq
  (.reg [11, 12, 13] [o 11 (.mov (tt 5)),
    o 12 (.mov (tt 0)),
    o 13 (.len (tt 12)),
    o 14 (.bin .lss (tt 11) (tt 13))])
  (.cond (tt 14)
   .skip
   (.exit 0)))
  (.seq
  (.block 1
   (.seq
   (.dreg [17, 18, 19, 20, 21, 22, 23, 24] [0, 0, 3, 7, 0, 0, 48, 112, 255] [(3, 1020), (7, 1024)] [o 17 (.mov (tt 0)),
     o 18 (.mov (tt 5)),
     o 19 (.idx 1 (tt 17) (tt 18)),
     o 20 (.load false 1 (tt 19)),
     o 21 (.mov (tt 1)),
     o 22 (.mov (tt 5)),
     o 23 (.idx 1 (tt 21) (tt 22)),
     o 24 (.load false 1 (tt 23)),
     o 25 (.bin .neq (tt 20) (tt 24))])
   (.cond (tt 25)
    (.seq
    (.reg [] [o 4 (.mov (cb false))])
    .ret)
    .skip)))
  (.reg [15, 16] [o 15 (.mov (tt 5)),
    o 16 (.bin .add (tt 15) (ci 1)),
    o 5 (.mov (tt 16))])))
def ir143_T2 : Ir :=
  (.seq
  (.reg [] [o 4 (.mov (cb true))])
  .ret)
def ir143 : Ir :=
  (.seq
  (.reg [] [o 4 (.mov (cb false))])
  (.seq
  (.seq
  (.reg [6, 7, 8, 9] [o 6 (.mov (tt 0)),
    o 7 (.len (tt 6)),
    o 8 (.mov (tt 1)),
    o 9 (.len (tt 8)),
    o 10 (.bin .neq (tt 7) (tt 9))])
  (.cond (tt 10)
   (.seq
   (.reg [] [o 4 (.mov (cb false))])
   .ret)
   .skip))
  (.seq
  (.seq
  (.reg [] [o 5 (.mov (ci 0))])
  (.block 0
   (.loop ir143_L1)))
  ir143_T2)))
def keep143 : List Nat := [0, 1, 4, 5, 10, 14, 25]
def res143 : List RI := [.tmp 4]
theorem chk143 : chk Tryd.prog 143 2 keep143 = some (ir143, res143) := by kernel_rfl
def ir144_L1 : Ir :=
  (.seq
  (.seq
  (.reg [6, 7, 8] [o 6 (.mov (tt 5)),
    o 7 (.mov (tt 0)),
    o 8 (.len (tt 7)),
    o 9 (.bin .lss (tt 6) (tt 8))])
  (.cond (tt 9)
   .skip
   (.exit 0)))
  (.seq
  (.block 1
   (.seq
   (.reg [12, 13, 14, 15] [o 12 (.mov (tt 0)),
     o 13 (.mov (tt 5)),
     o 14 (.mov (tt 1)),
     o 15 (.idx 1 (tt 12) (tt 13)),
     on (.store 1 (tt 15) (tt 14))])
   (.reg [16, 17] [o 16 (.mov (tt 1)),
     o 17 (.bin .add (tt 16) (ci 1)),
     o 1 (.mov (tt 17))])))
  (.reg [10, 11] [o 10 (.mov (tt 5)),
    o 11 (.bin .add (tt 10) (ci 1)),
    o 5 (.mov (tt 11))])))
def ir144_T2 : Ir :=
  (.seq
  (.reg [18] [o 18 (.mov (tt 1)),
    o 4 (.mov (tt 18))])
  .ret)
def ir144 : Ir :=
  (.seq
  (.reg [] [o 4 (.mov (ci 0))])
  (.seq
  (.seq
  (.reg [] [o 5 (.mov (ci 0))])
  (.block 0
   (.loop ir144_L1)))
  ir144_T2))
def keep144 : List Nat := [0, 1, 4, 5, 9]
def res144 : List RI := [.tmp 4]
theorem chk144 : chk Tryd.prog 144 2 keep144 = some (ir144, res144) := by kernel_rfl
def ir145_L1 : Ir :=
  (.seq
  (.seq
  (.reg [6, 7, 8] [o 6 (.mov (tt 5)),
    o 7 (.mov (tt 0)),
    o 8 (.len (tt 7)),
    o 9 (.bin .lss (tt 6) (tt 8))])
  (.cond (tt 9)
   .skip
   (.exit 0)))
  (.seq
  (.block 1
   (.seq
   (.seq
   (.reg [12, 13, 14, 15, 16] [o 12 (.mov (tt 0)),
     o 13 (.mov (tt 5)),
     o 14 (.idx 1 (tt 12) (tt 13)),
     o 15 (.load false 1 (tt 14)),
     o 16 (.mov (tt 1)),
     o 17 (.bin .neq (tt 15) (tt 16))])
   (.cond (tt 17)
    (.seq
    (.reg [] [o 4 (.mov (ci (-1)))])
    .ret)
    .skip))
   (.reg [18, 19] [o 18 (.mov (tt 1)),
     o 19 (.bin .add (tt 18) (ci 1)),
     o 1 (.mov (tt 19))])))
  (.reg [10, 11] [o 10 (.mov (tt 5)),
    o 11 (.bin .add (tt 10) (ci 1)),
    o 5 (.mov (tt 11))])))
def ir145_T2 : Ir :=
  (.seq
  (.reg [20] [o 20 (.mov (tt 1)),
    o 4 (.mov (tt 20))])
  .ret)
def ir145 : Ir :=
  (.seq
  (.reg [] [o 4 (.mov (ci 0))])
  (.seq
  (.seq
  (.reg [] [o 5 (.mov (ci 0))])
  (.block 0
   (.loop ir145_L1)))
  ir145_T2))
def keep145 : List Nat := [0, 1, 4, 5, 9, 17]
def res145 : List RI := [.tmp 4]
theorem chk145 : chk Tryd.prog 145 2 keep145 = some (ir145, res145) := by kernel_rfl


theorem c_toIntS (nn : Bool) (n : Nat) (g : Nat → Nat → PV) (hg : IntCells 1 n g) (hn : n ≤ 1048576) : PObj Tryd.prog G0 154 [SL nn 1 n g] [] (.own 0) [(0, .row .u true 1 n (fun i _ => PI (intOf (g i 0))) [])] :=
  (c_toIntS0 nn n (fun i => intOf (g i 0)) hn).args ⟨AV.leP_ints hg, trivial⟩ trivial

/-! ### eqIntS -/
def in_eqIntS (nn nn' : Bool) (n : Nat) (f : Nat → Int) := (G0, res143, ([] : List (Nat × Ob)), [Item.ir ir143], start [IL nn n f, IL nn' n f] [])
theorem ev_eqIntS : ∀ (nn nn' : Bool) (n : Nat) (f : Nat → Int), ev G0 res143 [] (3000 : Nat) (Or.nil.split Or.nil) [Item.ir ir143] (start [IL nn n f, IL nn' n f] []) = VC.split ((↑n : Int) != (↑n : Int)) (VC.doneP (AV.p true (PV.v (Value.bool false)))) (VC.loop ir143_L1 [Item.bend (0 : Nat), Item.ir ir143_T2] (St.mk [((0 : Nat), AV.p false (PV.sl nn (1 : Nat) n fun (i x : Nat) => PI (f i))), ((1 : Nat), AV.p false (PV.sl nn' (1 : Nat) n fun (i x : Nat) => PI (f i))), ((4 : Nat), AV.p true (PV.v (Value.bool false))), ((10 : Nat), AV.p true (PV.v (Value.bool ((↑n : Int) != (↑n : Int))))), ((5 : Nat), AV.p true (PV.v (Value.int IntKind.i64 (0 : Int))))] [])) := by intros; kernel_rfl
def st_eqIntS (nn nn' : Bool) (n : Nat) (f : Nat → Int) (k : Nat) : St := ⟨[(0, IL nn n f), (1, IL nn' n f), (5, AI k)], []⟩
def r_eqIntS (nn nn' : Bool) (n : Nat) (f : Nat → Int) (I : Nat → St → Prop) (k : Nat) := (G0, res143, ([] : List (Nat × Ob)), [Item.ir ir143_L1, .lend (I k), Item.bend 0, Item.ir ir143_T2], st_eqIntS nn nn' n f k)
theorem evr_eqIntS : ∀ (nn nn' : Bool) (n : Nat) (f : Nat → Int) (I : Nat → St → Prop) (k : Nat), ev G0 res143 [] (3000 : Nat) ((Or.nil.split Or.nil).split Or.nil) [Item.ir ir143_L1, Item.lend (I k), Item.bend (0 : Nat), Item.ir ir143_T2] (st_eqIntS nn nn' n f k) = VC.split (decide ((↑k : Int) < (↑n : Int))) (VC.need ((0 : Int) ≤ (↑k : Int) ∧ (↑k : Int).toNat < n) (VC.need ((0 : Int) ≤ (↑k : Int) ∧ (↑k : Int).toNat < n) (VC.split (f (↑k : Int).toNat != f (↑k : Int).toNat) (VC.doneP (AV.p true (PV.v (Value.bool false)))) (VC.lend (I k) (St.mk [((0 : Nat), AV.p false (PV.sl nn (1 : Nat) n fun (i x : Nat) => PI (f i))), ((1 : Nat), AV.p false (PV.sl nn' (1 : Nat) n fun (i x : Nat) => PI (f i))), ((5 : Nat), AV.p true (PV.v (Value.int IntKind.i64 (IntKind.i64.wrap ((↑k : Int) + (1 : Int)))))), ((14 : Nat), AV.p true (PV.v (Value.bool (decide ((↑k : Int) < (↑n : Int)))))), ((25 : Nat), AV.p true (PV.v (Value.bool (f (↑k : Int).toNat != f (↑k : Int).toNat))))] []))))) (VC.doneP (AV.p true (PV.v (Value.bool true)))) := by intros; kernel_rfl
theorem c_eqIntS0 (nn nn' : Bool) (n : Nat) (f : Nat → Int) (hn : n ≤ 1048576000) : PRet Tryd.prog G0 143 [IL nn n f, IL nn' n f] (AB true) := by
  refine PRet.by chk143 (ev_eqIntS nn nn' n f) ?_
  simp only [VC.holds_split, VC.holds_need, VC.holds_doneP, VC.holds_done, VC.holds_either, VC.holds_call, VC.holds_callE, VC.holds_lend, VC.holds_stop, VC.holds_fail, decide_eq_true_eq, decide_eq_false_iff_not]
  refine ⟨fun h => by simp at h, fun h => loop_by (st_eqIntS nn nn' n f) (fun k => k ≤ n) (fun k => n - k) 0 [] [] [] (by omega) ?_ (evr_eqIntS nn nn' n f) fun k hk => ?_⟩
  · simp [st_eqIntS, hbs, St.lowers, St.lower, stLe, leEnv, leObs, obLe, injB, pinC, AV.leC, AV.leCs, PV.leC, PV.Le_v, St.get, St.obj, look, rho, isNew, keptC, renH, Mode.ok, Mode.isZ, PV.isVal, PV.isNilSl, List.all_nil, List.all_cons, List.any_nil, List.any_cons, List.map_nil, List.map_cons]
  · simp only [VC.holds_split, VC.holds_need, VC.holds_doneP, VC.holds_done, VC.holds_either, VC.holds_call, VC.holds_callE, VC.holds_lend, VC.holds_stop, VC.holds_fail, decide_eq_true_eq, decide_eq_false_iff_not]
    refine ⟨fun h => ⟨by omega, by omega, fun h2 => by simp at h2, fun h2 => Again.mk (k + 1) [] [] [] (by omega) (by omega) ?_⟩, fun h => ?_⟩
    · have : IntKind.i64.wrap ((k : Int) + 1) = ((k + 1 : Nat) : Int) := wrap_in (by omega) (by omega)
      simp [st_eqIntS, hbs, St.lowers, St.lower, stLe, leEnv, leObs, obLe, injB, pinC, AV.leC, AV.leCs, PV.leC, PV.Le_v, St.get, St.obj, look, rho, isNew, keptC, renH, Mode.ok, Mode.isZ, PV.isVal, PV.isNilSl, List.all_nil, List.all_cons, List.any_nil, List.any_cons, List.map_nil, List.map_cons, this]
    · simp
theorem c_eqIntS (nn nn' : Bool) (n : Nat) (g g' : Nat → Nat → PV) (hg : IntCells 1 n g) (hg' : ∀ i, i < n → g' i 0 = g i 0) (hn : n ≤ 1048576000) : PRet Tryd.prog G0 143 [SL nn 1 n g, SL nn' 1 n g'] (AB true) :=
  (c_eqIntS0 nn nn' n (fun i => intOf (g i 0)) hn).args ⟨AV.leP_ints hg, ⟨fun h => (by cases h), fun h => h, rfl, rfl, fun i j hi hj => by
    obtain rfl : j = 0 := by omega
    rw [hg' i hi, hg i 0 hi hj]; exact .refl _⟩, trivial⟩

/-! ### markIntS -/
def in_markIntS (nn : Bool) (n : Nat) (g : Nat → Nat → PV) (v : Int) := (G0, res144, [(0, Ob.row .u nn 1 n g [])], [Item.ir ir144], start [.own 0, AI v] [(0, Ob.row .u nn 1 n g [])])
theorem ev_markIntS : ∀ (nn : Bool) (n : Nat) (g : Nat → Nat → PV) (v : Int), ev G0 res144 [((0 : Nat), Ob.row Mode.u nn (1 : Nat) n g [])] (3000 : Nat) Or.nil [Item.ir ir144] (start [AV.own (0 : Nat), AI v] [((0 : Nat), Ob.row Mode.u nn (1 : Nat) n g [])]) = VC.loop ir144_L1 [Item.bend (0 : Nat), Item.ir ir144_T2] (St.mk [((0 : Nat), AV.own (100000 : Nat)), ((1 : Nat), AV.p true (PV.v (Value.int IntKind.i64 v))), ((4 : Nat), AV.p true (PV.v (Value.int IntKind.i64 (0 : Int)))), ((5 : Nat), AV.p true (PV.v (Value.int IntKind.i64 (0 : Int))))] [((100000 : Nat), Ob.row Mode.u nn (1 : Nat) n g [])]) := by intros; kernel_rfl
def mark (g : Nat → Nat → PV) (v : Int) (k : Nat) : Nat → Nat → PV := fun i j => if i < k then PI (v + i) else g i j
def st_markIntS (nn : Bool) (n : Nat) (g : Nat → Nat → PV) (v : Int) (k : Nat) : St := ⟨[(0, .own 100000), (1, AI (v + k)), (5, AI k)], [(100000, .row .u nn 1 n (mark g v k) [])]⟩
def r_markIntS (nn : Bool) (n : Nat) (g : Nat → Nat → PV) (v : Int) (I : Nat → St → Prop) (k : Nat) := (G0, res144, [(0, Ob.row .u nn 1 n g [])], [Item.ir ir144_L1, .lend (I k), Item.bend 0, Item.ir ir144_T2], st_markIntS nn n g v k)
theorem evr_markIntS : ∀ (nn : Bool) (n : Nat) (g : Nat → Nat → PV) (v : Int) (I : Nat → St → Prop) (k : Nat), ev G0 res144 [((0 : Nat), Ob.row Mode.u nn (1 : Nat) n g [])] (3000 : Nat) (Or.nil.split Or.nil) [Item.ir ir144_L1, Item.lend (I k), Item.bend (0 : Nat), Item.ir ir144_T2] (st_markIntS nn n g v k) = VC.split (decide ((↑k : Int) < (↑n : Int))) (VC.need ((0 : Int) ≤ (↑k : Int) ∧ (↑k : Int).toNat < n) (VC.need ((↑k : Int).toNat < n) (VC.lend (I k) (St.mk [((0 : Nat), AV.own (100000 : Nat)), ((1 : Nat), AV.p true (PV.v (Value.int IntKind.i64 (IntKind.i64.wrap (v + (↑k : Int) + (1 : Int)))))), ((5 : Nat), AV.p true (PV.v (Value.int IntKind.i64 (IntKind.i64.wrap ((↑k : Int) + (1 : Int)))))), ((9 : Nat), AV.p true (PV.v (Value.bool (decide ((↑k : Int) < (↑n : Int))))))] [((100000 : Nat), Ob.row Mode.u nn (1 : Nat) n (setG [((↑k : Int).toNat, (0 : Nat), PV.v (Value.int IntKind.i64 (v + (↑k : Int))))] (mark g v k)) [])])))) (VC.done (St.mk [((0 : Nat), AV.own (100000 : Nat)), ((1 : Nat), AV.p true (PV.v (Value.int IntKind.i64 (v + (↑k : Int))))), ((5 : Nat), AV.p true (PV.v (Value.int IntKind.i64 (↑k : Int)))), ((9 : Nat), AV.p true (PV.v (Value.bool (decide ((↑k : Int) < (↑n : Int)))))), ((4 : Nat), AV.p true (PV.v (Value.int IntKind.i64 (v + (↑k : Int)))))] [((100000 : Nat), Ob.row Mode.u nn (1 : Nat) n (mark g v k) [])])) := by intros; kernel_rfl

theorem c_markIntS (nn : Bool) (n : Nat) (g : Nat → Nat → PV) (v : Int) (hn : n ≤ 1048576000) (hv1 : -1048576000 ≤ v) (hv2 : v ≤ 1048576000) :
    PObj Tryd.prog G0 144 [.own 0, AI v] [(0, Ob.row .u nn 1 n g [])] (AI (v + n)) [(0, Ob.row .u nn 1 n (fun i _ => PI (v + i)) [])] := by
  refine PObj.by chk144 rfl (ev_markIntS nn n g v) ?_
  refine loop_by (st_markIntS nn n g v) (fun k => k ≤ n) (fun k => n - k) 0 [] [] [] (by omega) ?_ (evr_markIntS nn n g v) fun k hk => ?_
  · simp [st_markIntS, hbs, St.lowers, St.lower, stLe, leEnv, leObs, obLe, injB, pinC, AV.leC, AV.leCs, PV.leC, PV.Le_v, St.get, St.obj, look, rho, isNew, keptC, renH, Mode.ok, Mode.isZ, PV.isVal, PV.isNilSl, List.all_nil, List.all_cons, List.any_nil, List.any_cons, List.map_nil, List.map_cons, hbs]
    intro i hi
    exact .refl _
  · simp only [VC.holds_split, VC.holds_need, VC.holds_doneP, VC.holds_done, VC.holds_either, VC.holds_call, VC.holds_callE, VC.holds_lend, VC.holds_stop, VC.holds_fail, decide_eq_true_eq, decide_eq_false_iff_not]
    refine ⟨fun h => ⟨by omega, by omega, Again.mk (k + 1) [] [] [] (by omega) (by omega) ?_⟩, fun h => ?_⟩
    · have e1 : IntKind.i64.wrap ((k : Int) + 1) = ((k + 1 : Nat) : Int) := wrap_in (by omega) (by omega)
      have e2 : IntKind.i64.wrap (v + (k : Int) + 1) = v + ((k + 1 : Nat) : Int) := (wrap_in (by omega) (by omega)).trans (by omega)
      simp [st_markIntS, hbs, St.lowers, St.lower, stLe, leEnv, leObs, obLe, injB, pinC, AV.leC, AV.leCs, PV.leC, PV.Le_v, St.get, St.obj, look, rho, isNew, keptC, renH, Mode.ok, Mode.isZ, PV.isVal, PV.isNilSl, List.all_nil, List.all_cons, List.any_nil, List.any_cons, List.map_nil, List.map_cons, e1, e2, hbs]
      intro i hi
      by_cases h1 : i = k
      · subst h1; simp [setG, cellSet, mark]; exact .refl _
      · have : (i < k + 1) = (i < k) := by apply propext; omega
        simp [setG, cellSet, mark, h1, this]; exact .refl _
    · have : k = n := by omega
      subst this
      refine ResOk.mk [] [(0, 100000)] [] _ _ ?_ ⟨rfl, rfl⟩
      simp [doneC, resOf, resAV, tup, pinR, hbs, St.lowers, St.lower, stLe, leEnv, leObs, obLe, injB, pinC, AV.leC, AV.leCs, PV.leC, PV.Le_v, St.get, St.obj, look, rho, isNew, keptC, renH, Mode.ok, Mode.isZ, PV.isVal, PV.isNilSl, List.all_nil, List.all_cons, List.any_nil, List.any_cons, List.map_nil, List.map_cons, res144, hbs]
      intro i hi
      simp [mark, hi]; exact .refl _

/-! ### heldIntS -/
def in_heldIntS (nn : Bool) (n : Nat) (v : Int) := (G0, res145, ([] : List (Nat × Ob)), [Item.ir ir145], start [IL nn n (fun i => v + i), AI v] [])
theorem ev_heldIntS : ∀ (nn : Bool) (n : Nat) (v : Int), ev G0 res145 [] (3000 : Nat) Or.nil [Item.ir ir145] (start [IL nn n fun (i : Nat) => v + (↑i : Int), AI v] []) = VC.loop ir145_L1 [Item.bend (0 : Nat), Item.ir ir145_T2] (St.mk [((0 : Nat), AV.p false (PV.sl nn (1 : Nat) n fun (i x : Nat) => PI (v + (↑i : Int)))), ((1 : Nat), AV.p true (PV.v (Value.int IntKind.i64 v))), ((4 : Nat), AV.p true (PV.v (Value.int IntKind.i64 (0 : Int)))), ((5 : Nat), AV.p true (PV.v (Value.int IntKind.i64 (0 : Int))))] []) := by intros; kernel_rfl
def st_heldIntS (nn : Bool) (n : Nat) (v : Int) (k : Nat) : St := ⟨[(0, IL nn n (fun i => v + i)), (1, AI (v + k)), (5, AI k)], []⟩
def r_heldIntS (nn : Bool) (n : Nat) (v : Int) (I : Nat → St → Prop) (k : Nat) := (G0, res145, ([] : List (Nat × Ob)), [Item.ir ir145_L1, .lend (I k), Item.bend 0, Item.ir ir145_T2], st_heldIntS nn n v k)
theorem evr_heldIntS : ∀ (nn : Bool) (n : Nat) (v : Int) (I : Nat → St → Prop) (k : Nat), ev G0 res145 [] (3000 : Nat) ((Or.nil.split Or.nil).split Or.nil) [Item.ir ir145_L1, Item.lend (I k), Item.bend (0 : Nat), Item.ir ir145_T2] (st_heldIntS nn n v k) = VC.split (decide ((↑k : Int) < (↑n : Int))) (VC.need ((0 : Int) ≤ (↑k : Int) ∧ (↑k : Int).toNat < n) (VC.split (v + (↑(↑k : Int).toNat : Int) != v + (↑k : Int)) (VC.doneP (AV.p true (PV.v (Value.int IntKind.i64 (-1 : Int))))) (VC.lend (I k) (St.mk [((0 : Nat), AV.p false (PV.sl nn (1 : Nat) n fun (i x : Nat) => PI (v + (↑i : Int)))), ((1 : Nat), AV.p true (PV.v (Value.int IntKind.i64 (IntKind.i64.wrap (v + (↑k : Int) + (1 : Int)))))), ((5 : Nat), AV.p true (PV.v (Value.int IntKind.i64 (IntKind.i64.wrap ((↑k : Int) + (1 : Int)))))), ((9 : Nat), AV.p true (PV.v (Value.bool (decide ((↑k : Int) < (↑n : Int)))))), ((17 : Nat), AV.p true (PV.v (Value.bool (v + (↑(↑k : Int).toNat : Int) != v + (↑k : Int)))))] [])))) (VC.doneP (AV.p true (PV.v (Value.int IntKind.i64 (v + (↑k : Int)))))) := by intros; kernel_rfl
theorem c_heldIntS0 (nn : Bool) (n : Nat) (v : Int) (hn : n ≤ 1048576000) (hv1 : -1048576000 ≤ v) (hv2 : v ≤ 1048576000) : PRet Tryd.prog G0 145 [IL nn n (fun i => v + i), AI v] (AI (v + n)) := by
  refine PRet.by chk145 (ev_heldIntS nn n v) ?_
  refine loop_by (st_heldIntS nn n v) (fun k => k ≤ n) (fun k => n - k) 0 [] [] [] (by omega) ?_ (evr_heldIntS nn n v) fun k hk => ?_
  · simp [st_heldIntS, hbs, St.lowers, St.lower, stLe, leEnv, leObs, obLe, injB, pinC, AV.leC, AV.leCs, PV.leC, PV.Le_v, St.get, St.obj, look, rho, isNew, keptC, renH, Mode.ok, Mode.isZ, PV.isVal, PV.isNilSl, List.all_nil, List.all_cons, List.any_nil, List.any_cons, List.map_nil, List.map_cons]
  · simp only [VC.holds_split, VC.holds_need, VC.holds_doneP, VC.holds_done, VC.holds_either, VC.holds_call, VC.holds_callE, VC.holds_lend, VC.holds_stop, VC.holds_fail, decide_eq_true_eq, decide_eq_false_iff_not]
    refine ⟨fun h => ⟨by omega, fun h2 => by simp at h2, fun h2 => Again.mk (k + 1) [] [] [] (by omega) (by omega) ?_⟩, fun h => ?_⟩
    · have e1 : IntKind.i64.wrap ((k : Int) + 1) = ((k + 1 : Nat) : Int) := wrap_in (by omega) (by omega)
      have e2 : IntKind.i64.wrap (v + (k : Int) + 1) = v + ((k + 1 : Nat) : Int) := (wrap_in (by omega) (by omega)).trans (by omega)
      simp [st_heldIntS, hbs, St.lowers, St.lower, stLe, leEnv, leObs, obLe, injB, pinC, AV.leC, AV.leCs, PV.leC, PV.Le_v, St.get, St.obj, look, rho, isNew, keptC, renH, Mode.ok, Mode.isZ, PV.isVal, PV.isNilSl, List.all_nil, List.all_cons, List.any_nil, List.any_cons, List.map_nil, List.map_cons, e1, e2]
    · have : k = n := by omega
      subst this
      simp
theorem c_heldIntS (nn : Bool) (n : Nat) (g : Nat → Nat → PV) (v : Int) (hg : ∀ i, i < n → g i 0 = PI (v + i)) (hn : n ≤ 1048576000) (hv1 : -1048576000 ≤ v) (hv2 : v ≤ 1048576000) : PRet Tryd.prog G0 145 [SL nn 1 n g, AI v] (AI (v + n)) :=
  (c_heldIntS0 nn n v hn hv1 hv2).args ⟨⟨fun h => (by cases h), fun h => h, rfl, rfl, fun i j hi hj => by
    obtain rfl : j = 0 := by omega
    rw [hg i hi]; exact .refl _⟩, AV.leP_p _ _, trivial⟩
end Go.Gw
