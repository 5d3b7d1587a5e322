/- Tags joined; leaves that are tags; with no condition. -/
import Derived.Test.YtbaafpfappfkjaaDoorLedger
import Derived.KernelRfl
namespace Go.Gw
open Go Go.Proofs
set_option linter.unusedSimpArgs false
set_option linter.unusedVariables false
set_option maxRecDepth 100000
def ir16 : Ir :=
  (.seq
  (.reg [] [o 4 (.mov (ci 0))])
  (.seq
  (.seq
  (.reg [5, 6, 7, 8, 9, 10, 11] [o 5 (.mov (tt 0)),
    o 6 (.call 44 [(tt 5), (ci 0), (ci 200002)]),
    o 7 (.un .not (tt 6)),
    o 8 (.mov (tt 7)),
    og 9 8 false (.mov (tt 1)),
    og 10 8 false (.call 44 [(tt 9), (ci 0), (ci 200002)]),
    og 11 8 false (.un .not (tt 10)),
    o 12 (.pick (tt 8) (cb true) (tt 11))])
  (.cond (tt 12)
   (.seq
   (.reg [] [o 4 (.mov (ci (-1)))])
   .ret)
   .skip))
  (.seq
  (.reg [13, 14, 15, 16, 17, 18, 19] [o 13 (.mov (tt 0)),
    o 14 (.bin .mul (ci 31) (tt 13)),
    o 15 (.mov (tt 1)),
    o 16 (.bin .mul (ci 7919) (tt 15)),
    o 17 (.bin .add (tt 14) (tt 16)),
    o 18 (.bin .add (tt 17) (ci 17)),
    o 19 (.bin .rem (tt 18) (ci 200003)),
    o 4 (.mov (tt 19))])
  .ret)))
def keep16 : List Nat := [0, 1, 4, 12]
def res16 : List RI := [.tmp 4]
theorem chk16 : chk Tryd.prog 16 2 keep16 = some (ir16, res16) := by kernel_rfl
def ir43 : Ir :=
  (.seq
  (.reg [] [o 2 (.mov (cb false))])
  (.seq
  (.reg [3, 4] [o 3 (.mov (tt 0)),
    o 4 (.call 47 [(tt 3), (ci 0), (ci 200002)]),
    o 2 (.mov (tt 4))])
  .ret))
def keep43 : List Nat := [0, 2]
def res43 : List RI := [.tmp 2]
theorem chk43 : chk Tryd.prog 43 1 keep43 = some (ir43, res43) := by kernel_rfl
def ir15 : Ir :=
  (.seq
  (.reg [] [o 4 (.mov (ci 0))])
  (.seq
  (.seq
  (.reg [5, 6, 7, 8, 9, 10, 11] [o 5 (.mov (tt 0)),
    o 6 (.call 43 [(tt 5)]),
    o 7 (.un .not (tt 6)),
    o 8 (.mov (tt 7)),
    og 9 8 false (.mov (tt 1)),
    og 10 8 false (.call 43 [(tt 9)]),
    og 11 8 false (.un .not (tt 10)),
    o 12 (.pick (tt 8) (cb true) (tt 11))])
  (.cond (tt 12)
   (.seq
   (.reg [] [o 4 (.mov (ci (-1)))])
   .ret)
   .skip))
  (.seq
  (.reg [13, 14, 15, 16, 17, 18, 19] [o 13 (.mov (tt 0)),
    o 14 (.bin .mul (ci 31) (tt 13)),
    o 15 (.mov (tt 1)),
    o 16 (.bin .mul (ci 7919) (tt 15)),
    o 17 (.bin .add (tt 14) (tt 16)),
    o 18 (.bin .add (tt 17) (ci 17)),
    o 19 (.bin .rem (tt 18) (ci 200003)),
    o 4 (.mov (tt 19))])
  .ret)))
def keep15 : List Nat := [0, 1, 4, 12]
def res15 : List RI := [.tmp 4]
theorem chk15 : chk Tryd.prog 15 2 keep15 = some (ir15, res15) := by kernel_rfl
def ir57_L1 : Ir :=
  (.seq
  (.seq
  (.reg [5, 6, 7] [o 5 (.mov (tt 3)),
    o 6 (.mov (tt 0)),
    o 7 (.len (tt 6)),
    o 8 (.bin .lss (tt 5) (tt 7))])
  (.cond (tt 8)
   .skip
   (.exit 0)))
  (.block 1
   (.reg [9, 10] [o 9 (.mov (tt 3)),
     o 10 (.bin .mul (ci 2) (tt 9)),
     o 3 (.mov (tt 10))])))
def ir57_L2 : Ir :=
  (.seq
  (.seq
  (.reg [11, 12, 13] [o 11 (.mov (tt 4)),
    o 12 (.mov (tt 0)),
    o 13 (.len (tt 12)),
    o 14 (.bin .lss (tt 11) (tt 13))])
  (.cond (tt 14)
   .skip
   (.exit 2)))
  (.seq
  (.block 3
   (.seq
   (.reg [17, 18, 19, 20, 21] [o 17 (.mov (tt 0)),
     o 18 (.mov (tt 4)),
     o 19 (.idx 1 (tt 17) (tt 18)),
     o 20 (.load false 1 (tt 19)),
     o 21 (.call 44 [(tt 20), (ci 0), (ci 200002)]),
     o 22 (.un .not (tt 21))])
   (.cond (tt 22)
    (.seq
    (.reg [] [o 2 (.mov (cb false))])
    .ret)
    .skip)))
  (.reg [15, 16] [o 15 (.mov (tt 4)),
    o 16 (.bin .add (tt 15) (ci 1)),
    o 4 (.mov (tt 16))])))
def ir57_T3 : Ir :=
  (.seq
  (.reg [23, 24, 25, 26, 27, 28, 29, 30] [o 23 (.mov (tt 3)),
    o 24 (.mov (tt 0)),
    o 25 (.len (tt 24)),
    o 26 (.bin .eql (tt 23) (tt 25)),
    o 27 (.mov (tt 26)),
    og 28 27 true (.mov (tt 3)),
    og 29 27 true (.bin .leq (tt 28) (ci 16)),
    o 30 (.pick (tt 27) (tt 29) (cb false)),
    o 2 (.mov (tt 30))])
  .ret)
def ir57_T4 : Ir :=
  (.seq
  (.seq
  (.reg [] [o 4 (.mov (ci 0))])
  (.block 2
   (.loop ir57_L2)))
  ir57_T3)
def ir57 : Ir :=
  (.seq
  (.reg [] [o 2 (.mov (cb false))])
  (.seq
  (.reg [] [o 3 (.mov (ci 1))])
  (.seq
  (.block 0
   (.loop ir57_L1))
  ir57_T4)))
def keep57 : List Nat := [0, 2, 3, 4, 8, 14, 22]
def res57 : List RI := [.tmp 2]
theorem chk57 : chk Tryd.prog 57 1 keep57 = some (ir57, res57) := by kernel_rfl
def ir58_L1 : Ir :=
  (.seq
  (.seq
  (.reg [6, 7, 8, 9] [o 6 (.mov (tt 4)),
    o 7 (.bin .add (tt 6) (ci 1)),
    o 8 (.mov (tt 0)),
    o 9 (.len (tt 8)),
    o 10 (.bin .lss (tt 7) (tt 9))])
  (.cond (tt 10)
   .skip
   (.exit 0)))
  (.seq
  (.block 1
   (.dreg [13, 14, 15, 16, 17, 18, 19, 20, 21, 22, 23, 24, 25] [0, 0, 0, 6, 14, 0, 0, 64, 224, 480, 1022, 2046, 4095, 8191] [(4, 1017), (9, 1022), (10, 1023), (10, 2023), (10, 3023), (10, 4023), (10, 5023), (10, 6023), (10, 7023), (10, 8023), (11, 24), (12, 25)] [o 13 (.mov (tt 3)),
     o 14 (.mov (tt 0)),
     o 15 (.mov (tt 4)),
     o 16 (.idx 1 (tt 14) (tt 15)),
     o 17 (.load false 1 (tt 16)),
     o 18 (.mov (tt 0)),
     o 19 (.mov (tt 4)),
     o 20 (.bin .add (tt 19) (ci 1)),
     o 21 (.idx 1 (tt 18) (tt 20)),
     o 22 (.load false 1 (tt 21)),
     o 23 (.call 16 [(tt 17), (tt 22)]),
     o 24 (.mkSl 1 1 [(.int .i64 0)] [(0, (tt 23))]),
     o 25 (.app 1 8 true (tt 13) (tt 24)),
     o 3 (.mov (tt 25))]))
  (.reg [11, 12] [o 11 (.mov (tt 4)),
    o 12 (.bin .add (tt 11) (ci 2)),
    o 4 (.mov (tt 12))])))
def ir58_T2 : Ir :=
  (.seq
  (.reg [26] [o 26 (.mov (tt 3)),
    o 2 (.mov (tt 26))])
  .ret)
def ir58 : Ir :=
  (.seq
  (.reg [] [o 2 (.mov (.const (.slice none 0 0)))])
  (.seq
  (.reg [5] [o 5 (.mkSl 1 0 [(.int .i64 0)] []),
    o 3 (.mov (tt 5))])
  (.seq
  (.seq
  (.reg [] [o 4 (.mov (ci 0))])
  (.block 0
   (.loop ir58_L1)))
  ir58_T2)))
def keep58 : List Nat := [0, 2, 3, 4, 10]
def res58 : List RI := [.tmp 2]
theorem chk58 : chk Tryd.prog 58 1 keep58 = some (ir58, res58) := by kernel_rfl
def ir34_L1 : Ir :=
  (.seq
  (.seq
  (.reg [10, 11] [o 10 (.mov (tt 3)),
    o 11 (.len (tt 10)),
    o 12 (.bin .gtr (tt 11) (ci 1))])
  (.cond (tt 12)
   .skip
   (.exit 0)))
  (.block 1
   (.reg [13, 14] [o 13 (.mov (tt 3)),
     o 14 (.call 58 [(tt 13)]),
     o 3 (.mov (tt 14))])))
def ir34_T2 : Ir :=
  (.seq
  (.reg [15, 16, 17] [o 15 (.mov (tt 3)),
    o 16 (.idx 1 (tt 15) (ci 0)),
    o 17 (.load false 1 (tt 16)),
    o 2 (.mov (tt 17))])
  .ret)
def ir34 : Ir :=
  (.seq
  (.reg [] [o 2 (.mov (ci 0))])
  (.seq
  (.seq
  (.reg [4, 5] [o 4 (.mov (tt 0)),
    o 5 (.call 57 [(tt 4)]),
    o 6 (.un .not (tt 5))])
  (.cond (tt 6)
   (.seq
   (.reg [] [o 2 (.mov (ci (-1)))])
   .ret)
   .skip))
  (.seq
  (.reg [7, 8, 9] [o 7 (.mkSl 1 0 [(.int .i64 0)] []),
    o 8 (.mov (tt 0)),
    o 9 (.app 1 8 true (tt 7) (tt 8)),
    o 3 (.mov (tt 9))])
  (.seq
  (.block 0
   (.loop ir34_L1))
  ir34_T2))))
def keep34 : List Nat := [0, 2, 3, 6, 12]
def res34 : List RI := [.tmp 2]
theorem chk34 : chk Tryd.prog 34 1 keep34 = some (ir34, res34) := by kernel_rfl

theorem allV_row (n : Nat) (f : Nat → Int) : allV 1 n (fun i _ => PI (f i)) := fun _ _ _ _ => rfl
def tagB (x : Int) : Bool := inB x 0 200002
def joinT (x y : Int) : Int := if tagB x && tagB y then (31 * x + 7919 * y + 17).tmod 200003 else -1
theorem tagB_iff {x : Int} : tagB x = true ↔ 0 ≤ x ∧ x ≤ 200002 := inB_iff
theorem joinT_tag {x y : Int} (hx : tagB x = true) (hy : tagB y = true) : tagB (joinT x y) = true := by
  have := tagB_iff.1 hx
  have := tagB_iff.1 hy
  rw [tagB_iff]
  simp only [joinT, hx, hy, Bool.and_self, if_true]
  have h1 : 0 ≤ 31 * x + 7919 * y + 17 := by omega
  constructor
  · exact Int.tmod_nonneg _ h1
  · have := Int.tmod_lt_of_pos (31 * x + 7919 * y + 17) (show (0 : Int) < 200003 by decide)
    omega

def in_spJT (x y : Int) := (G0, res16, ([] : List (Nat × Ob)), [Item.ir ir16], start [AI x, AI y] [])
theorem ev_spJT : ∀ (x y : Int),
  ev G0 res16 [] (3000 : Nat)
      (Or.call [] (AB (inB x (0 : Int) (200002 : Int))) []
        (Or.nil.lit.lit.lit.lit.split
          (Or.call [] (AB (inB y (0 : Int) (200002 : Int))) [] (Or.nil.split Or.nil).lit.lit).lit))
      [Item.ir ir16] (start [AI x, AI y] []) =
    VC.call (44 : Nat)
      [AV.p true (PV.v (Value.int IntKind.i64 x)), AV.p true (PV.v (Value.int IntKind.i64 (0 : Int))),
        AV.p true (PV.v (Value.int IntKind.i64 (200002 : Int)))]
      [] (AB (inB x (0 : Int) (200002 : Int))) []
      (VC.split (!inB x (0 : Int) (200002 : Int)) (VC.doneP (AV.p true (PV.v (Value.int IntKind.i64 (-1 : Int)))))
        (VC.call (44 : Nat)
          [AV.p true (PV.v (Value.int IntKind.i64 y)), AV.p true (PV.v (Value.int IntKind.i64 (0 : Int))),
            AV.p true (PV.v (Value.int IntKind.i64 (200002 : Int)))]
          [] (AB (inB y (0 : Int) (200002 : Int))) []
          (VC.split (!inB y (0 : Int) (200002 : Int)) (VC.doneP (AV.p true (PV.v (Value.int IntKind.i64 (-1 : Int)))))
            (VC.need ((200003 : Int) ≠ (0 : Int))
              (VC.doneP
                (AV.p true
                  (PV.v
                    (Value.int IntKind.i64
                      ((IntKind.i64.wrap
                            (IntKind.i64.wrap
                                (IntKind.i64.wrap ((31 : Int) * x) + IntKind.i64.wrap ((7919 : Int) * y)) +
                              (17 : Int))).tmod
                        (200003 : Int)))))))))) := by
  intros; kernel_rfl
theorem c_spJT (x y : Int) : PRet Tryd.prog G0 16 [AI x, AI y] (AI (joinT x y)) := by
  refine PRet.by chk16 (ev_spJT x y) ?_
  simp only [VC.holds_split, VC.holds_need, VC.holds_doneP, VC.holds_done, VC.holds_either, VC.holds_call, VC.holds_callE, VC.holds_lend, VC.holds_stop, VC.holds_fail, decide_eq_true_eq, decide_eq_false_iff_not]
  refine ⟨c_l1In _ _ _, fun h => ?_, fun h => ⟨c_l1In _ _ _, fun h2 => ?_, fun h2 => ?_⟩⟩
  · simp only [Bool.not_eq_true'] at h
    simp [joinT, tagB, h]
  · simp only [Bool.not_eq_true'] at h2
    simp [joinT, tagB, h2]
  · simp only [Bool.not_eq_false'] at h h2
    have hx := inB_iff.1 h
    have hy := inB_iff.1 h2
    have e1 : IntKind.i64.wrap (31 * x) = 31 * x := wrap_in (by omega) (by omega)
    have e2 : IntKind.i64.wrap (7919 * y) = 7919 * y := wrap_in (by omega) (by omega)
    have e3 : IntKind.i64.wrap (31 * x + 7919 * y) = 31 * x + 7919 * y := wrap_in (by omega) (by omega)
    have e4 : IntKind.i64.wrap (31 * x + 7919 * y + 17) = 31 * x + 7919 * y + 17 := wrap_in (by omega) (by omega)
    simp [joinT, tagB, h, h2, e1, e2, e3, e4]
def in_isTag (x : Int) := (G0, res43, ([] : List (Nat × Ob)), [Item.ir ir43], start [AI x] [])
theorem ev_isTag : ∀ (x : Int),
  ev G0 res43 [] (3000 : Nat) (Or.call [] (AB (inB x (0 : Int) (200002 : Int))) [] Or.nil) [Item.ir ir43]
      (start [AI x] []) =
    VC.call (47 : Nat)
      [AV.p true (PV.v (Value.int IntKind.i64 x)), AV.p true (PV.v (Value.int IntKind.i64 (0 : Int))),
        AV.p true (PV.v (Value.int IntKind.i64 (200002 : Int)))]
      [] (AB (inB x (0 : Int) (200002 : Int))) []
      (VC.doneP (AV.p true (PV.v (Value.bool (inB x (0 : Int) (200002 : Int)))))) := by
  intros; kernel_rfl
theorem c_isTag (x : Int) : PRet Tryd.prog G0 43 [AI x] (AB (tagB x)) := by
  refine PRet.by chk43 (ev_isTag x) ?_
  simp only [VC.holds_split, VC.holds_need, VC.holds_doneP, VC.holds_done, VC.holds_either, VC.holds_call, VC.holds_callE, VC.holds_lend, VC.holds_stop, VC.holds_fail, decide_eq_true_eq, decide_eq_false_iff_not]
  exact ⟨c_in _ _ _, by simp [tagB]⟩
def in_imJT (x y : Int) := (G0, res15, ([] : List (Nat × Ob)), [Item.ir ir15], start [AI x, AI y] [])
theorem ev_imJT : ∀ (x y : Int),
  ev G0 res15 [] (3000 : Nat)
      (Or.call [] (AB (tagB x)) []
        (Or.nil.lit.lit.lit.lit.split (Or.call [] (AB (tagB y)) [] (Or.nil.split Or.nil).lit.lit).lit))
      [Item.ir ir15] (start [AI x, AI y] []) =
    VC.call (43 : Nat) [AV.p true (PV.v (Value.int IntKind.i64 x))] [] (AB (tagB x)) []
      (VC.split (!tagB x) (VC.doneP (AV.p true (PV.v (Value.int IntKind.i64 (-1 : Int)))))
        (VC.call (43 : Nat) [AV.p true (PV.v (Value.int IntKind.i64 y))] [] (AB (tagB y)) []
          (VC.split (!tagB y) (VC.doneP (AV.p true (PV.v (Value.int IntKind.i64 (-1 : Int)))))
            (VC.need ((200003 : Int) ≠ (0 : Int))
              (VC.doneP
                (AV.p true
                  (PV.v
                    (Value.int IntKind.i64
                      ((IntKind.i64.wrap
                            (IntKind.i64.wrap
                                (IntKind.i64.wrap ((31 : Int) * x) + IntKind.i64.wrap ((7919 : Int) * y)) +
                              (17 : Int))).tmod
                        (200003 : Int)))))))))) := by
  intros; kernel_rfl
theorem c_imJT (x y : Int) : PRet Tryd.prog G0 15 [AI x, AI y] (AI (joinT x y)) := by
  refine PRet.by chk15 (ev_imJT x y) ?_
  simp only [VC.holds_split, VC.holds_need, VC.holds_doneP, VC.holds_done, VC.holds_either, VC.holds_call, VC.holds_callE, VC.holds_lend, VC.holds_stop, VC.holds_fail, decide_eq_true_eq, decide_eq_false_iff_not]
  refine ⟨c_isTag _, fun h => ?_, fun h => ⟨c_isTag _, fun h2 => ?_, fun h2 => ?_⟩⟩
  · simp only [Bool.not_eq_true'] at h
    simp [joinT, h]
  · simp only [Bool.not_eq_true'] at h2
    simp [joinT, h2]
  · simp only [Bool.not_eq_false'] at h h2
    have hx := tagB_iff.1 h
    have hy := tagB_iff.1 h2
    have e1 : IntKind.i64.wrap (31 * x) = 31 * x := wrap_in (by omega) (by omega)
    have e2 : IntKind.i64.wrap (7919 * y) = 7919 * y := wrap_in (by omega) (by omega)
    have e3 : IntKind.i64.wrap (31 * x + 7919 * y) = 31 * x + 7919 * y := wrap_in (by omega) (by omega)
    have e4 : IntKind.i64.wrap (31 * x + 7919 * y + 17) = 31 * x + 7919 * y + 17 := wrap_in (by omega) (by omega)
    simp [joinT, h, h2, e1, e2, e3, e4]

/-! ### The spec's leaves -/
def in_lv (nn : Bool) (n : Nat) (f : Nat → Int) := (G0, res57, ([] : List (Nat × Ob)), [Item.ir ir57], start [IL nn n f] [])
theorem ev_lv : ∀ (nn : Bool) (n : Nat) (f : Nat → Int),
  ev G0 res57 [] (3000 : Nat) Or.nil [Item.ir ir57] (start [IL nn n f] []) =
    VC.loop ir57_L1 [Item.bend (0 : Nat), Item.ir ir57_T4]
      {
        env :=
          [((0 : Nat), AV.p false (PV.sl nn (1 : Nat) n fun (i x : Nat) => PI (f i))),
            ((2 : Nat), AV.p true (PV.v (Value.bool false))),
            ((3 : Nat), AV.p true (PV.v (Value.int IntKind.i64 (1 : Int))))],
        H := [] } := by
  intros; kernel_rfl
def in_up (nn : Bool) (n : Nat) (f : Nat → Int) := (G0, res58, ([] : List (Nat × Ob)), [Item.ir ir58], start [IL nn n f] [])
theorem ev_up : ∀ (nn : Bool) (n : Nat) (f : Nat → Int),
  ev G0 res58 [] (3000 : Nat) Or.nil [Item.ir ir58] (start [IL nn n f] []) =
    VC.loop ir58_L1 [Item.bend (0 : Nat), Item.ir ir58_T2]
      {
        env :=
          [((0 : Nat), AV.p false (PV.sl nn (1 : Nat) n fun (i x : Nat) => PI (f i))),
            ((2 : Nat), AV.p true (PV.v (Value.slice none (0 : Nat) (0 : Nat)))), ((3 : Nat), AV.own (5 : Nat)),
            ((4 : Nat), AV.p true (PV.v (Value.int IntKind.i64 (0 : Int))))],
        H :=
          [((5 : Nat),
              Ob.row Mode.u true (1 : Nat) (0 : Nat)
                (fun (x j : Nat) => PV.v ([Value.int IntKind.i64 (0 : Int)].getD j undef)) [])] } := by
  intros; kernel_rfl
def upF (f : Nat → Int) : Nat → Int := fun i => joinT (f (2 * i)) (f (2 * i + 1))
def st_up (nn : Bool) (n : Nat) (f : Nat → Int) (k : Nat) : St := ⟨[(0, IL nn n f), (3, .own 5), (4, AI (2 * k))], [(5, .row .u true 1 k (fun i _ => PI (upF f i)) [])]⟩
def r_up (nn : Bool) (n : Nat) (f : Nat → Int) (I : Nat → St → Prop) (k : Nat) := (G0, res58, ([] : List (Nat × Ob)), [Item.ir ir58_L1, .lend (I k), Item.bend 0, Item.ir ir58_T2], st_up nn n f k)
theorem evr_up : ∀ (nn : Bool) (n : Nat) (f : Nat → Int) (I : Nat → St → Prop) (k : Nat),
  ev G0 res58 [] (3000 : Nat)
      ((Or.call []
            (AI
              (joinT (f ((2 : Int) * (↑k : Int)).toNat)
                (f (IntKind.i64.wrap ((2 : Int) * (↑k : Int) + (1 : Int))).toNat)))
            [] Or.nil).split
        Or.nil)
      [Item.ir ir58_L1, Item.lend (I k), Item.bend (0 : Nat), Item.ir ir58_T2] (st_up nn n f k) =
    VC.split (decide (IntKind.i64.wrap ((2 : Int) * (↑k : Int) + (1 : Int)) < (↑n : Int)))
      (VC.need ((0 : Int) ≤ (2 : Int) * (↑k : Int) ∧ ((2 : Int) * (↑k : Int)).toNat < n)
        (VC.need
          ((0 : Int) ≤ IntKind.i64.wrap ((2 : Int) * (↑k : Int) + (1 : Int)) ∧
            (IntKind.i64.wrap ((2 : Int) * (↑k : Int) + (1 : Int))).toNat < n)
          (VC.call (16 : Nat)
            [AV.p true (PV.v (Value.int IntKind.i64 (f ((2 : Int) * (↑k : Int)).toNat))),
              AV.p true
                (PV.v (Value.int IntKind.i64 (f (IntKind.i64.wrap ((2 : Int) * (↑k : Int) + (1 : Int))).toNat)))]
            []
            (AI
              (joinT (f ((2 : Int) * (↑k : Int)).toNat)
                (f (IntKind.i64.wrap ((2 : Int) * (↑k : Int) + (1 : Int))).toNat)))
            []
            (VC.need
              (((k + (1 : Nat)) * (8 : Nat) ≤ (140737488355328 : Nat) ∧
                  (↑(k + (1 : Nat)) : Int) ≤ (9223372036854775807 : Int)) ∧
                allV (1 : Nat) (1 : Nat) fun (a b : Nat) =>
                  if a = nat_lit 0 ∧ b = (0 : Nat) then
                    PV.v
                      (Value.int IntKind.i64
                        (joinT (f ((2 : Int) * (↑k : Int)).toNat)
                          (f (IntKind.i64.wrap ((2 : Int) * (↑k : Int) + (1 : Int))).toNat)))
                  else PV.v ([Value.int IntKind.i64 (0 : Int)].getD b undef))
              (VC.lend (I k)
                {
                  env :=
                    [((0 : Nat), AV.p false (PV.sl nn (1 : Nat) n fun (i x : Nat) => PI (f i))),
                      ((3 : Nat), AV.own (25 : Nat)),
                      ((4 : Nat),
                        AV.p true
                          (PV.v (Value.int IntKind.i64 (IntKind.i64.wrap ((2 : Int) * (↑k : Int) + (2 : Int)))))),
                      ((10 : Nat),
                        AV.p true
                          (PV.v
                            (Value.bool
                              (decide (IntKind.i64.wrap ((2 : Int) * (↑k : Int) + (1 : Int)) < (↑n : Int))))))],
                  H :=
                    [((25 : Nat),
                        Ob.row Mode.u true (1 : Nat) (k + (1 : Nat))
                          (fun (a b : Nat) =>
                            if a < k then PI (upF f a)
                            else
                              if a - k = nat_lit 0 ∧ b = (0 : Nat) then
                                PV.v
                                  (Value.int IntKind.i64
                                    (joinT (f ((2 : Int) * (↑k : Int)).toNat)
                                      (f (IntKind.i64.wrap ((2 : Int) * (↑k : Int) + (1 : Int))).toNat)))
                              else PV.v ([Value.int IntKind.i64 (0 : Int)].getD b undef))
                          [])] })))))
      (VC.done
        {
          env :=
            [((0 : Nat), AV.p false (PV.sl nn (1 : Nat) n fun (i x : Nat) => PI (f i))), ((3 : Nat), AV.own (5 : Nat)),
              ((4 : Nat), AV.p true (PV.v (Value.int IntKind.i64 ((2 : Int) * (↑k : Int))))),
              ((10 : Nat),
                AV.p true
                  (PV.v (Value.bool (decide (IntKind.i64.wrap ((2 : Int) * (↑k : Int) + (1 : Int)) < (↑n : Int)))))),
              ((2 : Nat), AV.own (5 : Nat))],
          H := [((5 : Nat), Ob.row Mode.u true (1 : Nat) k (fun (i x : Nat) => PI (upF f i)) [])] }) := by
  intros; kernel_rfl
theorem c_up0 (nn : Bool) (n : Nat) (f : Nat → Int) (hn : n ≤ 1048576) : PObj Tryd.prog G0 58 [IL nn n f] [] (.own 0) [(0, .row .u true 1 (n / 2) (fun i _ => PI (upF f i)) [])] := by
  refine PObj.by chk58 rfl (ev_up nn n f) ?_
  refine loop_by (st_up nn n f) (fun k => 2 * k ≤ n) (fun k => n - k) 0 [] [] [] (by omega) ?_ (evr_up nn n f) fun k hk => ?_
  · simp [st_up, hbs, St.lowers, St.lower, stLe, leEnv, leObs, obLe, injB, pinC, AV.leC, AV.leCs, PV.leC, PV.Le_v, St.get, St.obj, look, rho, isNew, keptC, renH, Mode.ok, Mode.isZ, PV.isVal, PV.isNilSl, List.all_nil, List.all_cons, List.any_nil, List.any_cons, List.map_nil, List.map_cons]
  · simp only [VC.holds_split, VC.holds_need, VC.holds_doneP, VC.holds_done, VC.holds_either, VC.holds_call, VC.holds_callE, VC.holds_lend, VC.holds_stop, VC.holds_fail, decide_eq_true_eq, decide_eq_false_iff_not]
    have e1 : IntKind.i64.wrap (2 * (k : Int) + 1) = ((2 * k + 1 : Nat) : Int) := (wrap_in (by omega) (by omega)).trans (by omega)
    have e2 : IntKind.i64.wrap (2 * (k : Int) + 2) = 2 * ((k + 1 : Nat) : Int) := (wrap_in (by omega) (by omega)).trans (by omega)
    have e3 : (2 * (k : Int)).toNat = 2 * k := by omega
    simp only [e1, e2, e3, Int.toNat_natCast]
    refine ⟨fun h => ⟨by omega, by omega, c_spJT _ _, ⟨by omega, ?_⟩, Again.mk (k + 1) [] [(5, 25)] [] (by omega) (by omega) ?_⟩, fun h => ?_⟩
    · intro i j hi hj
      obtain rfl : i = 0 := by omega
      obtain rfl : j = 0 := by omega
      rfl
    · simp [st_up, hbs, St.lowers, St.lower, stLe, leEnv, leObs, obLe, injB, pinC, AV.leC, AV.leCs, PV.leC, PV.Le_v, St.get, St.obj, look, rho, isNew, keptC, renH, Mode.ok, Mode.isZ, PV.isVal, PV.isNilSl, List.all_nil, List.all_cons, List.any_nil, List.any_cons, List.map_nil, List.map_cons]
      intro i hi
      by_cases h1 : i < k
      · simp [h1]; exact .refl _
      · have : i = k := by omega
        subst this
        simp [setG, cellSet, upF]; exact .refl _
    · have : k = n / 2 := by omega
      refine ResOk.mk [] [(0, 5)] [] _ _ ?_ ⟨rfl, rfl⟩
      simp [doneC, resOf, resAV, tup, pinR, hbs, St.lowers, St.lower, stLe, leEnv, leObs, obLe, injB, pinC, AV.leC, AV.leCs, PV.leC, PV.Le_v, St.get, St.obj, look, rho, isNew, keptC, renH, Mode.ok, Mode.isZ, PV.isVal, PV.isNilSl, List.all_nil, List.all_cons, List.any_nil, List.any_cons, List.map_nil, List.map_cons, res58, ← this]

def treeN (n : Nat) : Bool := n == 1 || n == 2 || n == 4 || n == 8 || n == 16
def treeOk (n : Nat) (f : Nat → Int) : Bool := treeN n && allB (fun i => tagB (f i)) n
theorem pow_bound {n k : Nat} (hn : n ≤ 1048576) (h : k = 0 ∨ 2 ^ (k - 1) < n) : k ≤ 21 := by
  rcases h with h | h
  · omega
  · rcases Nat.lt_or_ge k 22 with h1 | h1
    · omega
    · have := Nat.pow_le_pow_right (show 0 < 2 by decide) (show 21 ≤ k - 1 by omega)
      have e : 2 ^ 21 = 2097152 := by decide
      omega
theorem treeN_pow {n k : Nat} (hn : n ≤ 1048576) (h : k = 0 ∨ 2 ^ (k - 1) < n) (h2 : n ≤ 2 ^ k) : (decide (2 ^ k = n) && decide (2 ^ k ≤ 16)) = treeN n := by
  have hk := pow_bound hn h
  have : k = 0 ∨ k = 1 ∨ k = 2 ∨ k = 3 ∨ k = 4 ∨ 5 ≤ k := by omega
  unfold treeN
  rcases this with rfl | rfl | rfl | rfl | rfl | h5
  · simp at h2 ⊢
    have : n = 0 ∨ n = 1 := by omega
    rcases this with rfl | rfl <;> simp
  · simp at h h2 ⊢
    have : n = 2 := by omega
    subst this; simp
  · simp at h h2 ⊢
    have : n = 3 ∨ n = 4 := by omega
    rcases this with rfl | rfl <;> simp
  · simp at h h2 ⊢
    have : n = 5 ∨ n = 6 ∨ n = 7 ∨ n = 8 := by omega
    rcases this with rfl | rfl | rfl | rfl <;> simp
  · simp at h h2 ⊢
    have : n = 9 ∨ n = 10 ∨ n = 11 ∨ n = 12 ∨ n = 13 ∨ n = 14 ∨ n = 15 ∨ n = 16 := by omega
    rcases this with rfl | rfl | rfl | rfl | rfl | rfl | rfl | rfl <;> simp
  · have h6 := Nat.pow_le_pow_right (show 0 < 2 by decide) h5
    have h7 := Nat.pow_le_pow_right (show 0 < 2 by decide) (show 4 ≤ k - 1 by omega)
    have : ¬ 2 ^ k ≤ 16 := by omega
    have h8 : 16 < n := by rcases h with h | h <;> omega
    simp only [this, decide_false, Bool.and_false]
    symm
    simp
    omega
def st_lv (nn : Bool) (n : Nat) (f : Nat → Int) (k : Nat) : St := ⟨[(0, IL nn n f), (3, AI ((2 ^ k : Nat) : Int))], []⟩
def r_lv (nn : Bool) (n : Nat) (f : Nat → Int) (I : Nat → St → Prop) (k : Nat) := (G0, res57, ([] : List (Nat × Ob)), [Item.ir ir57_L1, .lend (I k), Item.bend 0, Item.ir ir57_T4], st_lv nn n f k)
theorem evr_lv : ∀ (nn : Bool) (n : Nat) (f : Nat → Int) (I : Nat → St → Prop) (k : Nat),
  ev G0 res57 [] (3000 : Nat) (Or.nil.split Or.nil)
      [Item.ir ir57_L1, Item.lend (I k), Item.bend (0 : Nat), Item.ir ir57_T4] (st_lv nn n f k) =
    VC.split (decide ((↑((2 : Nat) ^ k) : Int) < (↑n : Int)))
      (VC.lend (I k)
        {
          env :=
            [((0 : Nat), AV.p false (PV.sl nn (1 : Nat) n fun (i x : Nat) => PI (f i))),
              ((3 : Nat),
                AV.p true (PV.v (Value.int IntKind.i64 (IntKind.i64.wrap ((2 : Int) * (↑((2 : Nat) ^ k) : Int)))))),
              ((8 : Nat), AV.p true (PV.v (Value.bool (decide ((↑((2 : Nat) ^ k) : Int) < (↑n : Int))))))],
          H := [] })
      (VC.loop ir57_L2 [Item.bend (2 : Nat), Item.ir ir57_T3]
        {
          env :=
            [((0 : Nat), AV.p false (PV.sl nn (1 : Nat) n fun (i x : Nat) => PI (f i))),
              ((3 : Nat), AV.p true (PV.v (Value.int IntKind.i64 (↑((2 : Nat) ^ k) : Int)))),
              ((8 : Nat), AV.p true (PV.v (Value.bool (decide ((↑((2 : Nat) ^ k) : Int) < (↑n : Int)))))),
              ((4 : Nat), AV.p true (PV.v (Value.int IntKind.i64 (0 : Int))))],
          H := [] }) := by
  intros; kernel_rfl
def st_lv2 (nn : Bool) (n : Nat) (f : Nat → Int) (p : Int) (k : Nat) : St := ⟨[(0, IL nn n f), (3, AI p), (4, AI k)], []⟩
def r_lv2 (nn : Bool) (n : Nat) (f : Nat → Int) (p : Int) (I : Nat → St → Prop) (k : Nat) := (G0, res57, ([] : List (Nat × Ob)), [Item.ir ir57_L2, .lend (I k), Item.bend 2, Item.ir ir57_T3], st_lv2 nn n f p k)
theorem evr_lv2 : ∀ (nn : Bool) (n : Nat) (f : Nat → Int) (p : Int) (I : Nat → St → Prop) (k : Nat),
  ev G0 res57 [] (3000 : Nat)
      ((Or.call [] (AB (inB (f (↑k : Int).toNat) (0 : Int) (200002 : Int))) [] (Or.nil.split Or.nil)).split
        (Or.nil.lit.lit.split Or.nil.lit.lit))
      [Item.ir ir57_L2, Item.lend (I k), Item.bend (2 : Nat), Item.ir ir57_T3] (st_lv2 nn n f p k) =
    VC.split (decide ((↑k : Int) < (↑n : Int)))
      (VC.need ((0 : Int) ≤ (↑k : Int) ∧ (↑k : Int).toNat < n)
        (VC.call (44 : Nat)
          [AV.p true (PV.v (Value.int IntKind.i64 (f (↑k : Int).toNat))),
            AV.p true (PV.v (Value.int IntKind.i64 (0 : Int))), AV.p true (PV.v (Value.int IntKind.i64 (200002 : Int)))]
          [] (AB (inB (f (↑k : Int).toNat) (0 : Int) (200002 : Int))) []
          (VC.split (!inB (f (↑k : Int).toNat) (0 : Int) (200002 : Int))
            (VC.doneP (AV.p true (PV.v (Value.bool false))))
            (VC.lend (I k)
              {
                env :=
                  [((0 : Nat), AV.p false (PV.sl nn (1 : Nat) n fun (i x : Nat) => PI (f i))),
                    ((3 : Nat), AV.p true (PV.v (Value.int IntKind.i64 p))),
                    ((4 : Nat), AV.p true (PV.v (Value.int IntKind.i64 (IntKind.i64.wrap ((↑k : Int) + (1 : Int)))))),
                    ((14 : Nat), AV.p true (PV.v (Value.bool (decide ((↑k : Int) < (↑n : Int)))))),
                    ((22 : Nat), AV.p true (PV.v (Value.bool !inB (f (↑k : Int).toNat) (0 : Int) (200002 : Int))))],
                H := [] }))))
      (VC.split (p == (↑n : Int)) (VC.doneP (AV.p true (PV.v (Value.bool (decide (p ≤ (16 : Int)))))))
        (VC.doneP (AV.p true (PV.v (Value.bool false))))) := by
  intros; kernel_rfl
theorem c_lv0 (nn : Bool) (n : Nat) (f : Nat → Int) (hn : n ≤ 1048576) : PRet Tryd.prog G0 57 [IL nn n f] (AB (treeOk n f)) := by
  refine PRet.by chk57 (ev_lv nn n f) ?_
  refine loop_by (st_lv nn n f) (fun k => k = 0 ∨ 2 ^ (k - 1) < n) (fun k => 2 * n - 2 ^ k) 0 [] [] [] (.inl rfl) ?_ (evr_lv nn n f) fun k hk => ?_
  · simp [st_lv, hbs, St.lowers, St.lower, stLe, leEnv, leObs, obLe, injB, pinC, AV.leC, AV.leCs, PV.leC, PV.Le_v, St.get, St.obj, look, rho, isNew, keptC, renH, Mode.ok, Mode.isZ, PV.isVal, PV.isNilSl, List.all_nil, List.all_cons, List.any_nil, List.any_cons, List.map_nil, List.map_cons]
  · simp only [VC.holds_split, VC.holds_need, VC.holds_doneP, VC.holds_done, VC.holds_either, VC.holds_call, VC.holds_callE, VC.holds_lend, VC.holds_stop, VC.holds_fail, decide_eq_true_eq, decide_eq_false_iff_not]
    have hp : 0 < 2 ^ k := Nat.pow_pos (by decide)
    have hs : 2 ^ (k + 1) = 2 * 2 ^ k := by rw [Nat.pow_succ]; omega
    refine ⟨fun h => Again.mk (k + 1) [] [] [] (.inr ?_) ?_ ?_, fun h => ?_⟩
    · rw [Nat.add_sub_cancel]; omega
    · show 2 * n - 2 ^ (k + 1) < 2 * n - 2 ^ k
      omega
    · have e : IntKind.i64.wrap (2 * ((2 ^ k : Nat) : Int)) = ((2 ^ (k + 1) : Nat) : Int) := (wrap_in (by omega) (by omega)).trans (by omega)
      simp only [e, st_lv]
      simp [hbs, St.lowers, St.lower, stLe, leEnv, leObs, obLe, injB, pinC, AV.leC, AV.leCs, PV.leC, PV.Le_v, St.get, St.obj, look, rho, isNew, keptC, renH, Mode.ok, Mode.isZ, PV.isVal, PV.isNilSl, List.all_nil, List.all_cons, List.any_nil, List.any_cons, List.map_nil, List.map_cons]
    · refine loop_by (st_lv2 nn n f ((2 ^ k : Nat) : Int)) (fun i => i ≤ n ∧ ∀ j, j < i → tagB (f j) = true) (fun i => n - i) 0 [] [] [] (by simp) ?_ (evr_lv2 nn n f _) fun i hi => ?_
      · simp [st_lv2, hbs, St.lowers, St.lower, stLe, leEnv, leObs, obLe, injB, pinC, AV.leC, AV.leCs, PV.leC, PV.Le_v, St.get, St.obj, look, rho, isNew, keptC, renH, Mode.ok, Mode.isZ, PV.isVal, PV.isNilSl, List.all_nil, List.all_cons, List.any_nil, List.any_cons, List.map_nil, List.map_cons]
      · obtain ⟨hi, hall⟩ := hi
        simp only [VC.holds_split, VC.holds_need, VC.holds_doneP, VC.holds_done, VC.holds_either, VC.holds_call, VC.holds_callE, VC.holds_lend, VC.holds_stop, VC.holds_fail, decide_eq_true_eq, decide_eq_false_iff_not, Int.toNat_natCast]
        have hN := treeN_pow hn hk (by omega)
        refine ⟨fun h1 => ⟨by omega, c_l1In _ _ _, fun h2 => ?_, fun h2 => Again.mk (i + 1) [] [] [] ⟨by omega, fun j hj => ?_⟩ (by omega) ?_⟩, fun h1 => ⟨fun h2 => ?_, fun h2 => ?_⟩⟩
        · have : allB (fun i => tagB (f i)) n = false := by
            cases h3 : allB (fun i => tagB (f i)) n with
            | false => rfl
            | true =>
              have := allB_iff.1 h3 i (by omega)
              simp only [Bool.not_eq_true', tagB] at h2 this
              rw [h2] at this; cases this
          simp [treeOk, this]
        · simp only [Bool.not_eq_false'] at h2
          by_cases h3 : j = i
          · subst h3; exact h2
          · exact hall j (by omega)
        · have e1 : IntKind.i64.wrap ((i : Int) + 1) = ((i + 1 : Nat) : Int) := wrap_in (by omega) (by omega)
          simp only [e1, st_lv2]
          simp [hbs, St.lowers, St.lower, stLe, leEnv, leObs, obLe, injB, pinC, AV.leC, AV.leCs, PV.leC, PV.Le_v, St.get, St.obj, look, rho, isNew, keptC, renH, Mode.ok, Mode.isZ, PV.isVal, PV.isNilSl, List.all_nil, List.all_cons, List.any_nil, List.any_cons, List.map_nil, List.map_cons]
        · have hin : i = n := by omega
          subst hin
          have h4 : allB (fun i => tagB (f i)) i = true := allB_iff.2 hall
          have h5 : 2 ^ k = i := by simp only [beq_iff_eq] at h2; exact Int.ofNat.inj h2
          have h6 : decide (((2 ^ k : Nat) : Int) ≤ 16) = decide (2 ^ k ≤ 16) := by apply decide_eq_decide.2; omega
          rw [h6, treeOk, h4, ← hN, h5]
          simp
        · have hin : i = n := by omega
          subst hin
          have h5 : ¬ 2 ^ k = i := by
            intro e
            simp only [beq_eq_false_iff_ne] at h2
            omega
          simp [treeOk, ← hN, h5]
theorem IL_le {nn : Bool} {n : Nat} {g : Nat → Nat → PV} (hg : IntCells 1 n g) : AV.lePs [SL nn 1 n g] [IL nn n fun i => intOf (g i 0)] := ⟨AV.leP_ints hg, trivial⟩
theorem c_lv (nn : Bool) (n : Nat) (g : Nat → Nat → PV) (hg : IntCells 1 n g) (hn : n ≤ 1048576) : PRet Tryd.prog G0 57 [SL nn 1 n g] (AB (treeOk n fun i => intOf (g i 0))) := (c_lv0 nn n _ hn).args (IL_le hg)
theorem c_up (nn : Bool) (n : Nat) (g : Nat → Nat → PV) (hg : IntCells 1 n g) (hn : n ≤ 1048576) : PObj Tryd.prog G0 58 [SL nn 1 n g] [] (.own 0) [(0, .row .u true 1 (n / 2) (fun i _ => PI (upF (fun i => intOf (g i 0)) i)) [])] := (c_up0 nn n _ hn).args (IL_le hg) trivial
def upN (f : Nat → Int) : Nat → Nat → Int
  | 0 => f
  | k + 1 => upF (upN f k)
def rootOf (n : Nat) (f : Nat → Int) : Int := if treeOk n f then upN f (Nat.log2 n) 0 else -1

def in_spRO (nn : Bool) (n : Nat) (f : Nat → Int) := (G0, res34, ([] : List (Nat × Ob)), [Item.ir ir34], start [IL nn n f] [])
theorem ev_spRO : ∀ (nn : Bool) (n : Nat) (f : Nat → Int),
  ev G0 res34 [] (3000 : Nat) (Or.call [] (AB (treeOk n fun (i : Nat) => intOf (PI (f i)))) [] (Or.nil.split Or.nil))
      [Item.ir ir34] (start [IL nn n f] []) =
    VC.call (57 : Nat) [AV.p false (PV.sl nn (1 : Nat) n fun (i x : Nat) => PI (f i))] []
      (AB (treeOk n fun (i : Nat) => intOf (PI (f i)))) []
      (VC.split (!treeOk n fun (i : Nat) => intOf (PI (f i)))
        (VC.doneP (AV.p true (PV.v (Value.int IntKind.i64 (-1 : Int)))))
        (VC.need
          ((((0 : Nat) + n) * (8 : Nat) ≤ (140737488355328 : Nat) ∧
              (↑((0 : Nat) + n) : Int) ≤ (9223372036854775807 : Int)) ∧
            allV (1 : Nat) n fun (i x : Nat) => PI (f i))
          (VC.loop ir34_L1 [Item.bend (0 : Nat), Item.ir ir34_T2]
            {
              env :=
                [((0 : Nat), AV.p false (PV.sl nn (1 : Nat) n fun (i x : Nat) => PI (f i))),
                  ((2 : Nat), AV.p true (PV.v (Value.int IntKind.i64 (0 : Int)))),
                  ((6 : Nat), AV.p true (PV.v (Value.bool !treeOk n fun (i : Nat) => intOf (PI (f i))))),
                  ((3 : Nat), AV.own (9 : Nat))],
              H :=
                [((9 : Nat),
                    Ob.row Mode.u true (1 : Nat) ((0 : Nat) + n)
                      (fun (a b : Nat) =>
                        if a < (0 : Nat) then PV.v ([Value.int IntKind.i64 (0 : Int)].getD b undef)
                        else PI (f (a - (0 : Nat))))
                      [])] }))) := by
  intros; kernel_rfl
def st_spRO (nn : Bool) (n : Nat) (f : Nat → Int) (k : Nat) : St := ⟨[(3, .own 9)], [(9, .row .u true 1 (n / 2 ^ k) (fun i _ => PI (upN f k i)) [])]⟩
def r_spRO (nn : Bool) (n : Nat) (f : Nat → Int) (I : Nat → St → Prop) (k : Nat) := (G0, res34, ([] : List (Nat × Ob)), [Item.ir ir34_L1, .lend (I k), Item.bend 0, Item.ir ir34_T2], st_spRO nn n f k)
theorem evr_spRO : ∀ (nn : Bool) (n : Nat) (f : Nat → Int) (I : Nat → St → Prop) (k : Nat),
  ev G0 res34 [] (3000 : Nat)
      ((Or.call [] (AV.own (0 : Nat))
            [((0 : Nat),
                Ob.row Mode.u true (1 : Nat) (n / (2 : Nat) ^ k / (2 : Nat))
                  (fun (i x : Nat) => PI (upF (fun (i_1 : Nat) => intOf (PI (upN f k i_1))) i)) [])]
            Or.nil).split
        Or.nil)
      [Item.ir ir34_L1, Item.lend (I k), Item.bend (0 : Nat), Item.ir ir34_T2] (st_spRO nn n f k) =
    VC.split (decide ((1 : Int) < (↑(n / (2 : Nat) ^ k) : Int)))
      (VC.call (58 : Nat) [AV.p false (PV.sl true (1 : Nat) (n / (2 : Nat) ^ k) fun (i x : Nat) => PI (upN f k i))] []
        (AV.own (0 : Nat))
        [((0 : Nat),
            Ob.row Mode.u true (1 : Nat) (n / (2 : Nat) ^ k / (2 : Nat))
              (fun (i x : Nat) => PI (upF (fun (i_1 : Nat) => intOf (PI (upN f k i_1))) i)) [])]
        (VC.lend (I k)
          {
            env :=
              [((3 : Nat), AV.own (1014 : Nat)),
                ((12 : Nat), AV.p true (PV.v (Value.bool (decide ((1 : Int) < (↑(n / (2 : Nat) ^ k) : Int))))))],
            H :=
              [((1014 : Nat),
                  Ob.row Mode.u true (1 : Nat) (n / (2 : Nat) ^ k / (2 : Nat))
                    (fun (i x : Nat) => PI (upF (fun (i_1 : Nat) => intOf (PI (upN f k i_1))) i)) [])] }))
      (VC.need ((0 : Int) ≤ (0 : Int) ∧ Int.toNat (0 : Int) < n / (2 : Nat) ^ k)
        (VC.need ((0 : Nat) < n / (2 : Nat) ^ k)
          (VC.doneP (AV.p true (PV.v (Value.int IntKind.i64 (upN f k (0 : Nat)))))))) := by
  intros; kernel_rfl
theorem treeOk_n {n : Nat} {f : Nat → Int} (h : treeOk n f = true) : n = 1 ∨ n = 2 ∨ n = 4 ∨ n = 8 ∨ n = 16 := by
  simp only [treeOk, treeN, Bool.and_eq_true, Bool.or_eq_true, beq_iff_eq] at h
  omega
theorem tree_end {n k : Nat} (h : n = 1 ∨ n = 2 ∨ n = 4 ∨ n = 8 ∨ n = 16) (h1 : 0 < n / 2 ^ k) (h2 : n / 2 ^ k ≤ 1) (hk : k ≤ 4) : k = Nat.log2 n := by
  have hk' : k = 0 ∨ k = 1 ∨ k = 2 ∨ k = 3 ∨ k = 4 := by omega
  rcases h with rfl | rfl | rfl | rfl | rfl <;> rcases hk' with rfl | rfl | rfl | rfl | rfl <;> first
    | (exfalso; revert h1; decide)
    | (exfalso; revert h2; decide)
    | decide
theorem tree_step {n k : Nat} (h : n = 1 ∨ n = 2 ∨ n = 4 ∨ n = 8 ∨ n = 16) (h1 : 1 < n / 2 ^ k) (hk : k ≤ 4) : 0 < n / 2 ^ (k + 1) ∧ k + 1 ≤ 4 := by
  have hk' : k = 0 ∨ k = 1 ∨ k = 2 ∨ k = 3 ∨ k = 4 := by omega
  rcases h with rfl | rfl | rfl | rfl | rfl <;> rcases hk' with rfl | rfl | rfl | rfl | rfl <;> first
    | (exfalso; revert h1; decide)
    | decide
theorem c_spRO0 (nn : Bool) (n : Nat) (f : Nat → Int) (hn : n ≤ 1048576) : PRet Tryd.prog G0 34 [IL nn n f] (AI (rootOf n f)) := by
  refine PRet.by chk34 (ev_spRO nn n f) ?_
  simp only [VC.holds_split, VC.holds_need, VC.holds_doneP, VC.holds_done, VC.holds_either, VC.holds_call, VC.holds_callE, VC.holds_lend, VC.holds_stop, VC.holds_fail, decide_eq_true_eq, decide_eq_false_iff_not, intOf]
  refine ⟨c_lv _ _ _ (int_cells _ _) hn, fun h => ?_, fun h => ⟨⟨by omega, allV_row _ _⟩, ?_⟩⟩
  · simp only [Bool.not_eq_true'] at h
    simp [rootOf, h]
  · simp only [Bool.not_eq_false'] at h
    have hN := treeOk_n h
    refine loop_by (st_spRO nn n f) (fun k => 0 < n / 2 ^ k ∧ k ≤ 4) (fun k => 4 - k) 0 [] [] [] (by simp; omega) ?_ (evr_spRO nn n f) fun k hk => ?_
    · simp [st_spRO, hbs, St.lowers, St.lower, stLe, leEnv, leObs, obLe, injB, pinC, AV.leC, AV.leCs, PV.leC, PV.Le_v, St.get, St.obj, look, rho, isNew, keptC, renH, Mode.ok, Mode.isZ, PV.isVal, PV.isNilSl, List.all_nil, List.all_cons, List.any_nil, List.any_cons, List.map_nil, List.map_cons, upN]
    · obtain ⟨h1, hk⟩ := hk
      simp only [VC.holds_split, VC.holds_need, VC.holds_doneP, VC.holds_done, VC.holds_either, VC.holds_call, VC.holds_callE, VC.holds_lend, VC.holds_stop, VC.holds_fail, decide_eq_true_eq, decide_eq_false_iff_not]
      have hle : n / 2 ^ k ≤ n := Nat.div_le_self _ _
      refine ⟨fun h2 => ⟨c_up _ _ _ (int_cells _ _) (by omega), ?_⟩, fun h2 => ⟨⟨by omega, by simpa using h1⟩, h1, ?_⟩⟩
      · have := tree_step (k := k) hN (by omega) hk
        refine Again.mk (k + 1) [] [(9, 1014)] [] this (by omega) ?_
        have e : n / 2 ^ k / 2 = n / 2 ^ (k + 1) := by rw [Nat.div_div_eq_div_mul, Nat.pow_succ]
        simp [st_spRO, hbs, St.lowers, St.lower, stLe, leEnv, leObs, obLe, injB, pinC, AV.leC, AV.leCs, PV.leC, PV.Le_v, St.get, St.obj, look, rho, isNew, keptC, renH, Mode.ok, Mode.isZ, PV.isVal, PV.isNilSl, List.all_nil, List.all_cons, List.any_nil, List.any_cons, List.map_nil, List.map_cons, e, upN, intOf]
      · have := tree_end (k := k) hN h1 (by omega) hk
        subst this
        simp [rootOf, h]
theorem c_spRO (nn : Bool) (n : Nat) (g : Nat → Nat → PV) (hg : IntCells 1 n g) (hn : n ≤ 1048576) : PRet Tryd.prog G0 34 [SL nn 1 n g] (AI (rootOf n fun i => intOf (g i 0))) := (c_spRO0 nn n _ hn).args (IL_le hg)
end Go.Gw
