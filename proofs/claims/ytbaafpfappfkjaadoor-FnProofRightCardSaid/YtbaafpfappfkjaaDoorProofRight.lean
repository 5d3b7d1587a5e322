/- A proof that leads from a tag to a root; with no condition. -/
import Derived.Test.YtbaafpfappfkjaaDoorProofOf
import Derived.KernelRfl
namespace Go.Gw
open Go Go.Proofs
set_option linter.unusedSimpArgs false
set_option linter.unusedVariables false
set_option maxRecDepth 100000
def ir60 : Ir :=
  (.seq
  (.reg [] [o 2 (.mov (cb false))])
  (.seq
  (.reg [3, 4, 5] [o 3 (.mov (tt 0)),
    o 4 (.call 43 [(tt 3)]),
    o 5 (.un .not (tt 4)),
    o 2 (.mov (tt 5))])
  .ret))
def keep60 : List Nat := [0, 2]
def res60 : List RI := [.tmp 2]
theorem chk60 : chk Tryd.prog 60 1 keep60 = some (ir60, res60) := by kernel_rfl
def ir40_L1 : Ir :=
  (.seq
  (.seq
  (.reg [12, 13, 14, 15, 16, 17, 18] [o 12 (.mov (tt 10)),
    o 13 (.mov (tt 3)),
    o 14 (.len (tt 13)),
    o 15 (.bin .lss (tt 12) (tt 14)),
    o 16 (.mov (tt 15)),
    og 17 16 true (.mov (tt 10)),
    og 18 16 true (.bin .lss (tt 17) (ci 4)),
    o 19 (.pick (tt 16) (tt 18) (cb false))])
  (.cond (tt 19)
   .skip
   (.exit 0)))
  (.seq
  (.block 1
   (.reg [22, 23] [o 22 (.mov (tt 9)),
     o 23 (.bin .mul (ci 2) (tt 22)),
     o 9 (.mov (tt 23))]))
  (.reg [20, 21] [o 20 (.mov (tt 10)),
    o 21 (.bin .add (tt 20) (ci 1)),
    o 10 (.mov (tt 21))])))
def ir40_L2 : Ir :=
  (.seq
  (.seq
  (.reg [39, 40, 41, 42, 43, 44, 45] [o 39 (.mov (tt 11)),
    o 40 (.mov (tt 3)),
    o 41 (.len (tt 40)),
    o 42 (.bin .lss (tt 39) (tt 41)),
    o 43 (.mov (tt 42)),
    og 44 43 true (.mov (tt 2)),
    og 45 43 true (.bin .geq (tt 44) (ci 0)),
    o 46 (.pick (tt 43) (tt 45) (cb false))])
  (.cond (tt 46)
   .skip
   (.exit 2)))
  (.seq
  (.block 3
   (.seq
   (.seq
   (.reg [49, 50] [o 49 (.mov (tt 1)),
     o 50 (.bin .rem (tt 49) (ci 2)),
     o 51 (.bin .eql (tt 50) (ci 0))])
   (.cond (tt 51)
    (.reg [52, 53, 54, 55, 56, 57] [o 52 (.mov (tt 2)),
      o 53 (.mov (tt 3)),
      o 54 (.mov (tt 11)),
      o 55 (.idx 1 (tt 53) (tt 54)),
      o 56 (.load false 1 (tt 55)),
      o 57 (.call 16 [(tt 52), (tt 56)]),
      o 2 (.mov (tt 57))])
    (.reg [58, 59, 60, 61, 62, 63] [o 58 (.mov (tt 3)),
      o 59 (.mov (tt 11)),
      o 60 (.idx 1 (tt 58) (tt 59)),
      o 61 (.load false 1 (tt 60)),
      o 62 (.mov (tt 2)),
      o 63 (.call 16 [(tt 61), (tt 62)]),
      o 2 (.mov (tt 63))])))
   (.reg [64, 65] [o 64 (.mov (tt 1)),
     o 65 (.bin .quo (tt 64) (ci 2)),
     o 1 (.mov (tt 65))])))
  (.reg [47, 48] [o 47 (.mov (tt 11)),
    o 48 (.bin .add (tt 47) (ci 1)),
    o 11 (.mov (tt 48))])))
def ir40_T3 : Ir :=
  (.seq
  (.reg [66, 67, 68, 69, 70, 71, 72] [o 66 (.mov (tt 2)),
    o 67 (.bin .geq (tt 66) (ci 0)),
    o 68 (.mov (tt 67)),
    og 69 68 true (.mov (tt 2)),
    og 70 68 true (.mov (tt 0)),
    og 71 68 true (.bin .eql (tt 69) (tt 70)),
    o 72 (.pick (tt 68) (tt 71) (cb false)),
    o 8 (.mov (tt 72))])
  .ret)
def ir40_T4 : Ir :=
  (.seq
  (.seq
  (.reg [24, 25, 26, 27, 28, 29, 30, 31, 32, 33, 34, 35, 36, 37] [o 24 (.mov (tt 3)),
    o 25 (.len (tt 24)),
    o 26 (.bin .gtr (tt 25) (ci 4)),
    o 27 (.mov (tt 26)),
    og 28 27 false (.mov (tt 1)),
    og 29 27 false (.mov (tt 9)),
    og 30 27 false (.bin .sub (tt 29) (ci 1)),
    og 31 27 false (.call 44 [(tt 28), (ci 0), (tt 30)]),
    og 32 27 false (.un .not (tt 31)),
    o 33 (.pick (tt 27) (cb true) (tt 32)),
    o 34 (.mov (tt 33)),
    og 35 34 false (.mov (tt 2)),
    og 36 34 false (.call 44 [(tt 35), (ci 0), (ci 200002)]),
    og 37 34 false (.un .not (tt 36)),
    o 38 (.pick (tt 34) (cb true) (tt 37))])
  (.cond (tt 38)
   (.seq
   (.reg [] [o 8 (.mov (cb false))])
   .ret)
   .skip))
  (.seq
  (.seq
  (.reg [] [o 11 (.mov (ci 0))])
  (.block 2
   (.loop ir40_L2)))
  ir40_T3))
def ir40 : Ir :=
  (.seq
  (.reg [] [o 8 (.mov (cb false))])
  (.seq
  (.reg [] [o 9 (.mov (ci 1))])
  (.seq
  (.seq
  (.reg [] [o 10 (.mov (ci 0))])
  (.block 0
   (.loop ir40_L1)))
  ir40_T4)))
def keep40 : List Nat := [0, 1, 2, 3, 8, 9, 10, 11, 19, 38, 46, 51]
def res40 : List RI := [.tmp 8]
theorem chk40 : chk Tryd.prog 40 4 keep40 = some (ir40, res40) := by kernel_rfl
def ir36_L1 : Ir :=
  (.seq
  (.reg [] [o 35 (.bin .lss (tt 34) (tt 33))])
  (.seq
  (.cond (tt 35)
   .skip
   (.exit 0))
  (.seq
  (.block 1
   (.seq
   (.reg [36, 37] [o 36 (.idx 1 (tt 32) (tt 34)),
     o 37 (.load false 1 (tt 36)),
     o 10 (.mov (tt 37))])
   (.seq
   (.seq
   (.reg [38, 39] [o 38 (.mov (tt 1)),
     o 39 (.bin .rem (tt 38) (ci 2)),
     o 40 (.bin .eql (tt 39) (ci 0))])
   (.cond (tt 40)
    (.reg [41, 42, 43] [o 41 (.mov (tt 2)),
      o 42 (.mov (tt 10)),
      o 43 (.call 15 [(tt 41), (tt 42)]),
      o 2 (.mov (tt 43))])
    (.reg [44, 45, 46] [o 44 (.mov (tt 10)),
      o 45 (.mov (tt 2)),
      o 46 (.call 15 [(tt 44), (tt 45)]),
      o 2 (.mov (tt 46))])))
   (.reg [47, 48] [o 47 (.mov (tt 1)),
     o 48 (.bin .quo (tt 47) (ci 2)),
     o 1 (.mov (tt 48))]))))
  (.reg [49] [o 49 (.bin .add (tt 34) (ci 1)),
    o 34 (.mov (tt 49))]))))
def ir36_T2 : Ir :=
  (.seq
  (.reg [50, 51, 52] [o 50 (.mov (tt 2)),
    o 51 (.mov (tt 0)),
    o 52 (.bin .eql (tt 50) (tt 51)),
    o 8 (.mov (tt 52))])
  .ret)
def ir36 : Ir :=
  (.seq
  (.reg [] [o 8 (.mov (cb false))])
  (.seq
  (.seq
  (.reg [11, 12, 13, 14, 15, 16, 17, 18, 19, 20, 21, 22, 23, 24, 25, 26, 27, 28, 29, 30] [o 11 (.mov (tt 3)),
    o 12 (.len (tt 11)),
    o 13 (.bin .gtr (tt 12) (ci 4)),
    o 14 (.mov (tt 13)),
    og 15 14 false (.mov (tt 2)),
    og 16 14 false (.call 43 [(tt 15)]),
    og 17 14 false (.un .not (tt 16)),
    o 18 (.pick (tt 14) (cb true) (tt 17)),
    o 19 (.mov (tt 18)),
    og 20 19 false (.mov (tt 1)),
    og 21 19 false (.mov (tt 3)),
    og 22 19 false (.len (tt 21)),
    og 23 19 false (.bin .shl (ci 1) (tt 22)),
    og 24 19 false (.bin .sub (tt 23) (ci 1)),
    og 25 19 false (.call 47 [(tt 20), (ci 0), (tt 24)]),
    og 26 19 false (.un .not (tt 25)),
    o 27 (.pick (tt 19) (cb true) (tt 26)),
    o 28 (.mov (tt 27)),
    og 29 28 false (.mov (tt 3)),
    og 30 28 false (.call 59 [(tt 29), (.func 60)]),
    o 31 (.pick (tt 28) (cb true) (tt 30))])
  (.cond (tt 31)
   (.seq
   (.reg [] [o 8 (.mov (cb false))])
   .ret)
   .skip))
  (.seq
  (.seq
  (.reg [] [o 32 (.mov (tt 3)),
    o 33 (.len (tt 32)),
    o 34 (.mov (ci 0))])
  (.block 0
   (.loop ir36_L1)))
  ir36_T2)))
def keep36 : List Nat := [0, 1, 2, 3, 8, 10, 31, 32, 33, 34, 35, 40]
def res36 : List RI := [.tmp 8]
theorem chk36 : chk Tryd.prog 36 4 keep36 = some (ir36, res36) := by kernel_rfl

def in_lamP (x : Int) := (G0, res60, ([] : List (Nat × Ob)), [Item.ir ir60], start [AI x] [])
theorem ev_lamP : ∀ (x : Int),
  ev G0 res60 [] (3000 : Nat) (Or.call [] (AB (tagB x)) [] Or.nil) [Item.ir ir60] (start [AI x] []) =
    VC.call (43 : Nat) [AV.p true (PV.v (Value.int IntKind.i64 x))] [] (AB (tagB x)) []
      (VC.doneP (AV.p true (PV.v (Value.bool !tagB x)))) := by
  intros; kernel_rfl
theorem c_lamP (x : Int) : PRet Tryd.prog G0 60 [AI x] (AB (!tagB x)) := by
  refine PRet.by chk60 (ev_lamP x) ?_
  simp only [VC.holds_split, VC.holds_need, VC.holds_doneP, VC.holds_done, VC.holds_either, VC.holds_call, VC.holds_callE, VC.holds_lend, VC.holds_stop, VC.holds_fail, decide_eq_true_eq, decide_eq_false_iff_not]
  exact ⟨c_isTag _, by simp⟩

abbrev badFnP : AV := .cl 60 [] []
def in_idxP (nn : Bool) (n : Nat) (f : Nat → Int) := (G0, res65, ([] : List (Nat × Ob)), [Item.ir ir65], start [IL nn n f, badFnP] [])
theorem ev_idxP : ∀ (nn : Bool) (n : Nat) (f : Nat → Int),
  ev G0 res65 [] (3000 : Nat) Or.nil [Item.ir ir65] (start [IL nn n f, badFnP] []) =
    VC.loop ir65_L1 [Item.bend (0 : Nat), Item.ir ir65_T2]
      {
        env :=
          [((0 : Nat), AV.p false (PV.sl nn (1 : Nat) n fun (i x : Nat) => PI (f i))),
            ((1 : Nat), AV.cl (60 : Nat) [] []), ((4 : Nat), AV.p true (PV.v (Value.int IntKind.i64 (0 : Int)))),
            ((7 : Nat), AV.p true (PV.v (Value.int IntKind.i64 (↑n : Int)))),
            ((8 : Nat), AV.p true (PV.v (Value.int IntKind.i64 (0 : Int))))],
        H := [] } := by
  intros; kernel_rfl
def st_idxP (nn : Bool) (n : Nat) (f : Nat → Int) (k : Nat) : St := ⟨[(0, IL nn n f), (1, badFnP), (7, AI n), (8, AI k)], []⟩
def r_idxP (nn : Bool) (n : Nat) (f : Nat → Int) (I : Nat → St → Prop) (k : Nat) := (G0, res65, ([] : List (Nat × Ob)), [Item.ir ir65_L1, .lend (I k), Item.bend 0, Item.ir ir65_T2], st_idxP nn n f k)
theorem evr_idxP : ∀ (nn : Bool) (n : Nat) (f : Nat → Int) (I : Nat → St → Prop) (k : Nat),
  ev G0 res65 [] (3000 : Nat) ((Or.call [] (AB !tagB (f (↑k : Int).toNat)) [] (Or.nil.split Or.nil)).split Or.nil)
      [Item.ir ir65_L1, Item.lend (I k), Item.bend (0 : Nat), Item.ir ir65_T2] (st_idxP nn n f k) =
    VC.split (decide ((↑k : Int) < (↑n : Int)))
      (VC.need ((0 : Int) ≤ (↑k : Int) ∧ (↑k : Int).toNat < n)
        (VC.call (60 : Nat) [AV.p true (PV.v (Value.int IntKind.i64 (f (↑k : Int).toNat)))] []
          (AB !tagB (f (↑k : Int).toNat)) []
          (VC.split (!tagB (f (↑k : Int).toNat)) (VC.doneP (AV.p true (PV.v (Value.int IntKind.i64 (↑k : Int)))))
            (VC.lend (I k)
              {
                env :=
                  [((0 : Nat), AV.p false (PV.sl nn (1 : Nat) n fun (i x : Nat) => PI (f i))),
                    ((1 : Nat), AV.cl (60 : Nat) [] []),
                    ((7 : Nat), AV.p true (PV.v (Value.int IntKind.i64 (↑n : Int)))),
                    ((8 : Nat), AV.p true (PV.v (Value.int IntKind.i64 (IntKind.i64.wrap ((↑k : Int) + (1 : Int)))))),
                    ((9 : Nat), AV.p true (PV.v (Value.bool (decide ((↑k : Int) < (↑n : Int)))))),
                    ((5 : Nat), AV.p true (PV.v (Value.int IntKind.i64 (↑k : Int)))),
                    ((16 : Nat), AV.p true (PV.v (Value.bool !tagB (f (↑k : Int).toNat))))],
                H := [] }))))
      (VC.doneP (AV.p true (PV.v (Value.int IntKind.i64 (-1 : Int))))) := by
  intros; kernel_rfl
theorem c_idx0P (nn : Bool) (n : Nat) (f : Nat → Int) (hn : n ≤ 1048576) : PSome Tryd.prog G0 65 [IL nn n f, badFnP] [] Int (fun r => decide (0 ≤ r) = !allB (fun i => tagB (f i)) n) (fun r => AI r) (fun _ => []) := by
  refine PCall.by chk65 rfl (ev_idxP nn n f) ?_
  refine loop_by (st_idxP nn n f) (fun k => k ≤ n ∧ ∀ j, j < k → tagB (f j) = true) (fun k => n - k) 0 [] [] [] (by simp) ?_ (evr_idxP nn n f) fun k hk => ?_
  · simp [st_idxP, hbs, St.lowers, St.lower, stLe, leEnv, leObs, obLe, injB, pinC, AV.leC, AV.leCs, PV.leC, PV.Le_v, St.get, St.obj, look, rho, isNew, keptC, renH, Mode.ok, Mode.isZ, PV.isVal, PV.isNilSl, List.all_nil, List.all_cons, List.any_nil, List.any_cons, List.map_nil, List.map_cons]
  · obtain ⟨hk, hall⟩ := hk
    simp only [VC.holds_split, VC.holds_need, VC.holds_doneP, VC.holds_done, VC.holds_either, VC.holds_call, VC.holds_callE, VC.holds_lend, VC.holds_stop, VC.holds_fail, decide_eq_true_eq, decide_eq_false_iff_not, Int.toNat_natCast]
    refine ⟨fun h1 => ⟨by omega, c_lamP _, fun h2 => ?_, fun h2 => Again.mk (k + 1) [] [] [] ⟨by omega, fun j hj => ?_⟩ (by omega) ?_⟩, fun h1 => ?_⟩
    · have : allB (fun i => tagB (f i)) n = false := by
        cases h3 : allB (fun i => tagB (f i)) n with
        | false => rfl
        | true =>
          have := allB_iff.1 h3 k (by omega)
          simp only [Bool.not_eq_true'] at h2 this
          rw [h2] at this; cases this
      exact ⟨k, by simp [this], rfl, trivial⟩
    · simp only [Bool.not_eq_false'] at h2
      by_cases h3 : j = k
      · subst h3; exact h2
      · exact hall j (by omega)
    · have e1 : IntKind.i64.wrap ((k : Int) + 1) = ((k + 1 : Nat) : Int) := wrap_in (by omega) (by omega)
      simp only [e1, st_idxP]
      simp [hbs, St.lowers, St.lower, stLe, leEnv, leObs, obLe, injB, pinC, AV.leC, AV.leCs, PV.leC, PV.Le_v, St.get, St.obj, look, rho, isNew, keptC, renH, Mode.ok, Mode.isZ, PV.isVal, PV.isNilSl, List.all_nil, List.all_cons, List.any_nil, List.any_cons, List.map_nil, List.map_cons]
    · have : k = n := by omega
      subst this
      have : allB (fun i => tagB (f i)) k = true := allB_iff.2 hall
      exact ⟨-1, by simp [this], rfl, trivial⟩
theorem c_idxP (nn : Bool) (n : Nat) (g : Nat → Nat → PV) (hg : IntCells 1 n g) (hn : n ≤ 1048576) : PSome Tryd.prog G0 65 [SL nn 1 n g, badFnP] [] Int (fun r => decide (0 ≤ r) = !allB (fun i => tagB (intOf (g i 0))) n) (fun r => AI r) (fun _ => []) :=
  (c_idx0P nn n _ hn).args ⟨AV.leP_ints hg, ⟨rfl, trivial, trivial⟩, trivial⟩ trivial
def in_contP (nn : Bool) (n : Nat) (f : Nat → Int) := (G0, res59, ([] : List (Nat × Ob)), [Item.ir ir59], start [IL nn n f, badFnP] [])
theorem ev_contP : ∀ (nn : Bool) (n : Nat) (f : Nat → Int),
  ev G0 res59 [] (3000 : Nat)
      (Or.callE [] Int (fun (r : Int) => decide ((0 : Int) ≤ r) = !allB (fun (i : Nat) => tagB (intOf (PI (f i)))) n)
        (fun (r : Int) => AI r) (fun (x : Int) => []) fun (r : Int) => Or.nil)
      [Item.ir ir59] (start [IL nn n f, badFnP] []) =
    VC.callE Int (65 : Nat) [AV.p false (PV.sl nn (1 : Nat) n fun (i x : Nat) => PI (f i)), AV.cl (60 : Nat) [] []] []
      (fun (r : Int) => decide ((0 : Int) ≤ r) = !allB (fun (i : Nat) => tagB (intOf (PI (f i)))) n)
      (fun (r : Int) => AI r) (fun (x : Int) => []) fun (r : Int) =>
      VC.doneP (AV.p true (PV.v (Value.bool (decide ((0 : Int) ≤ r))))) := by
  intros; kernel_rfl
theorem c_cont0P (nn : Bool) (n : Nat) (f : Nat → Int) (hn : n ≤ 1048576) : PRet Tryd.prog G0 59 [IL nn n f, badFnP] (AB (!allB (fun i => tagB (f i)) n)) := by
  refine PRet.by chk59 (ev_contP nn n f) ?_
  simp only [VC.holds_split, VC.holds_need, VC.holds_doneP, VC.holds_done, VC.holds_either, VC.holds_call, VC.holds_callE, VC.holds_lend, VC.holds_stop, VC.holds_fail, decide_eq_true_eq, decide_eq_false_iff_not, intOf]
  refine ⟨c_idxP nn n _ (int_cells _ _) hn, fun r hr => ?_⟩
  simp [hr]
theorem c_contP (nn : Bool) (n : Nat) (g : Nat → Nat → PV) (hg : IntCells 1 n g) (hn : n ≤ 1048576) : PRet Tryd.prog G0 59 [SL nn 1 n g, badFnP] (AB (!allB (fun i => tagB (intOf (g i 0))) n)) :=
  (c_cont0P nn n _ hn).args ⟨AV.leP_ints hg, ⟨rfl, trivial, trivial⟩, trivial⟩


def walkT (a : Nat) (t : Int) (f : Nat → Int) : Nat → Int
  | 0 => t
  | k + 1 => if a / 2 ^ k % 2 = 0 then joinT (walkT a t f k) (f k) else joinT (f k) (walkT a t f k)
def p2 (n : Nat) : Nat := 2 ^ n
def prOk (n : Nat) (f : Nat → Int) (r a t : Int) : Bool := decide (n ≤ 4) && inB a 0 ((p2 n : Nat) - 1) && tagB t && allB (fun i => tagB (f i)) n && (walkT a.toNat t f n == r)

def in_spPR (nn : Bool) (n : Nat) (f : Nat → Int) (r a t : Int) := (G0, res40, ([] : List (Nat × Ob)), [Item.ir ir40], start [AI r, AI a, AI t, IL nn n f] [])
theorem ev_spPR : ∀ (nn : Bool) (n : Nat) (f : Nat → Int) (r a t : Int),
  ev G0 res40 [] (3000 : Nat) Or.nil [Item.ir ir40] (start [AI r, AI a, AI t, IL nn n f] []) =
    VC.loop ir40_L1 [Item.bend (0 : Nat), Item.ir ir40_T4]
      {
        env :=
          [((0 : Nat), AV.p true (PV.v (Value.int IntKind.i64 r))),
            ((1 : Nat), AV.p true (PV.v (Value.int IntKind.i64 a))),
            ((2 : Nat), AV.p true (PV.v (Value.int IntKind.i64 t))),
            ((3 : Nat), AV.p false (PV.sl nn (1 : Nat) n fun (i x : Nat) => PI (f i))),
            ((8 : Nat), AV.p true (PV.v (Value.bool false))),
            ((9 : Nat), AV.p true (PV.v (Value.int IntKind.i64 (1 : Int)))),
            ((10 : Nat), AV.p true (PV.v (Value.int IntKind.i64 (0 : Int))))],
        H := [] } := by
  intros; kernel_rfl
def st_spPR (nn : Bool) (n : Nat) (f : Nat → Int) (r a t : Int) (k : Nat) : St := ⟨[(0, AI r), (1, AI a), (2, AI t), (3, IL nn n f), (9, AI ((p2 k : Nat) : Int)), (10, AI k)], []⟩
def r_spPR (nn : Bool) (n : Nat) (f : Nat → Int) (r a t : Int) (I : Nat → St → Prop) (k : Nat) := (G0, res40, ([] : List (Nat × Ob)), [Item.ir ir40_L1, .lend (I k), Item.bend 0, Item.ir ir40_T4], st_spPR nn n f r a t k)
theorem evr_spPR : ∀ (nn : Bool) (n : Nat) (f : Nat → Int) (r a t : Int) (I : Nat → St → Prop) (k : Nat),
  ev G0 res40 [] (3000 : Nat)
      ((Or.nil.split
                (Or.nil.lit.lit.lit.lit.lit.lit.lit.lit.lit.lit.split
                  (Or.call [] (AB (inB a (0 : Int) (IntKind.i64.wrap ((↑(p2 k) : Int) - (1 : Int))))) []
                          (Or.nil.lit.lit.lit.lit.split
                                (Or.call [] (AB (inB t (0 : Int) (200002 : Int))) []
                                    (Or.nil.split Or.nil).lit.lit).lit).lit.lit).lit.lit.lit)).lit.lit.split
        (Or.nil.lit.lit.lit.lit.lit.lit.lit.lit.lit.lit.split
                (Or.call [] (AB (inB a (0 : Int) (IntKind.i64.wrap ((↑(p2 k) : Int) - (1 : Int))))) []
                        (Or.nil.lit.lit.lit.lit.split
                              (Or.call [] (AB (inB t (0 : Int) (200002 : Int))) []
                                  (Or.nil.split Or.nil).lit.lit).lit).lit.lit).lit.lit.lit).lit.lit.lit)
      [Item.ir ir40_L1, Item.lend (I k), Item.bend (0 : Nat), Item.ir ir40_T4] (st_spPR nn n f r a t k) =
    VC.split (decide ((↑k : Int) < (↑n : Int)))
      (VC.split (decide ((↑k : Int) < (4 : Int)))
        (VC.lend (I k)
          {
            env :=
              [((0 : Nat), AV.p true (PV.v (Value.int IntKind.i64 r))),
                ((1 : Nat), AV.p true (PV.v (Value.int IntKind.i64 a))),
                ((2 : Nat), AV.p true (PV.v (Value.int IntKind.i64 t))),
                ((3 : Nat), AV.p false (PV.sl nn (1 : Nat) n fun (i x : Nat) => PI (f i))),
                ((9 : Nat), AV.p true (PV.v (Value.int IntKind.i64 (IntKind.i64.wrap ((2 : Int) * (↑(p2 k) : Int)))))),
                ((10 : Nat), AV.p true (PV.v (Value.int IntKind.i64 (IntKind.i64.wrap ((↑k : Int) + (1 : Int)))))),
                ((19 : Nat), AV.p true (PV.v (Value.bool (decide ((↑k : Int) < (4 : Int))))))],
            H := [] })
        (VC.split (decide ((4 : Int) < (↑n : Int))) (VC.doneP (AV.p true (PV.v (Value.bool false))))
          (VC.call (44 : Nat)
            [AV.p true (PV.v (Value.int IntKind.i64 a)), AV.p true (PV.v (Value.int IntKind.i64 (0 : Int))),
              AV.p true (PV.v (Value.int IntKind.i64 (IntKind.i64.wrap ((↑(p2 k) : Int) - (1 : Int)))))]
            [] (AB (inB a (0 : Int) (IntKind.i64.wrap ((↑(p2 k) : Int) - (1 : Int))))) []
            (VC.split (!inB a (0 : Int) (IntKind.i64.wrap ((↑(p2 k) : Int) - (1 : Int))))
              (VC.doneP (AV.p true (PV.v (Value.bool false))))
              (VC.call (44 : Nat)
                [AV.p true (PV.v (Value.int IntKind.i64 t)), AV.p true (PV.v (Value.int IntKind.i64 (0 : Int))),
                  AV.p true (PV.v (Value.int IntKind.i64 (200002 : Int)))]
                [] (AB (inB t (0 : Int) (200002 : Int))) []
                (VC.split (!inB t (0 : Int) (200002 : Int)) (VC.doneP (AV.p true (PV.v (Value.bool false))))
                  (VC.loop ir40_L2 [Item.bend (2 : Nat), Item.ir ir40_T3]
                    {
                      env :=
                        [((0 : Nat), AV.p true (PV.v (Value.int IntKind.i64 r))),
                          ((1 : Nat), AV.p true (PV.v (Value.int IntKind.i64 a))),
                          ((2 : Nat), AV.p true (PV.v (Value.int IntKind.i64 t))),
                          ((3 : Nat), AV.p false (PV.sl nn (1 : Nat) n fun (i x : Nat) => PI (f i))),
                          ((9 : Nat), AV.p true (PV.v (Value.int IntKind.i64 (↑(p2 k) : Int)))),
                          ((10 : Nat), AV.p true (PV.v (Value.int IntKind.i64 (↑k : Int)))),
                          ((19 : Nat), AV.p true (PV.v (Value.bool (decide ((↑k : Int) < (4 : Int)))))),
                          ((38 : Nat), AV.p true (PV.v (Value.bool !inB t (0 : Int) (200002 : Int)))),
                          ((11 : Nat), AV.p true (PV.v (Value.int IntKind.i64 (0 : Int))))],
                      H := [] })))))))
      (VC.split (decide ((4 : Int) < (↑n : Int))) (VC.doneP (AV.p true (PV.v (Value.bool false))))
        (VC.call (44 : Nat)
          [AV.p true (PV.v (Value.int IntKind.i64 a)), AV.p true (PV.v (Value.int IntKind.i64 (0 : Int))),
            AV.p true (PV.v (Value.int IntKind.i64 (IntKind.i64.wrap ((↑(p2 k) : Int) - (1 : Int)))))]
          [] (AB (inB a (0 : Int) (IntKind.i64.wrap ((↑(p2 k) : Int) - (1 : Int))))) []
          (VC.split (!inB a (0 : Int) (IntKind.i64.wrap ((↑(p2 k) : Int) - (1 : Int))))
            (VC.doneP (AV.p true (PV.v (Value.bool false))))
            (VC.call (44 : Nat)
              [AV.p true (PV.v (Value.int IntKind.i64 t)), AV.p true (PV.v (Value.int IntKind.i64 (0 : Int))),
                AV.p true (PV.v (Value.int IntKind.i64 (200002 : Int)))]
              [] (AB (inB t (0 : Int) (200002 : Int))) []
              (VC.split (!inB t (0 : Int) (200002 : Int)) (VC.doneP (AV.p true (PV.v (Value.bool false))))
                (VC.loop ir40_L2 [Item.bend (2 : Nat), Item.ir ir40_T3]
                  {
                    env :=
                      [((0 : Nat), AV.p true (PV.v (Value.int IntKind.i64 r))),
                        ((1 : Nat), AV.p true (PV.v (Value.int IntKind.i64 a))),
                        ((2 : Nat), AV.p true (PV.v (Value.int IntKind.i64 t))),
                        ((3 : Nat), AV.p false (PV.sl nn (1 : Nat) n fun (i x : Nat) => PI (f i))),
                        ((9 : Nat), AV.p true (PV.v (Value.int IntKind.i64 (↑(p2 k) : Int)))),
                        ((10 : Nat), AV.p true (PV.v (Value.int IntKind.i64 (↑k : Int)))),
                        ((19 : Nat), AV.p true (PV.v (Value.bool false))),
                        ((38 : Nat), AV.p true (PV.v (Value.bool !inB t (0 : Int) (200002 : Int)))),
                        ((11 : Nat), AV.p true (PV.v (Value.int IntKind.i64 (0 : Int))))],
                    H := [] })))))) := by
  intros; kernel_rfl
def st_spPR2 (nn : Bool) (n : Nat) (f : Nat → Int) (r : Int) (a : Nat) (t : Int) (k : Nat) : St := ⟨[(0, AI r), (1, AI ((a / 2 ^ k : Nat) : Int)), (2, AI (walkT a t f k)), (3, IL nn n f), (11, AI k)], []⟩
def r_spPR2 (nn : Bool) (n : Nat) (f : Nat → Int) (r : Int) (a : Nat) (t : Int) (I : Nat → St → Prop) (k : Nat) := (G0, res40, ([] : List (Nat × Ob)), [Item.ir ir40_L2, .lend (I k), Item.bend 2, Item.ir ir40_T3], st_spPR2 nn n f r a t k)
theorem evr_spPR2 : ∀ (nn : Bool) (n : Nat) (f : Nat → Int) (r : Int) (a : Nat) (t : Int) (I : Nat → St → Prop) (k : Nat),
  ev G0 res40 [] (3000 : Nat)
      ((((Or.call [] (AI (joinT (walkT a t f k) (f (↑k : Int).toNat))) [] Or.nil).split
                    (Or.call [] (AI (joinT (f (↑k : Int).toNat) (walkT a t f k))) [] Or.nil)).split
                (Or.no.split Or.nil.lit.lit.lit)).lit.lit.split
        (Or.nil.lit.lit.lit.split Or.nil.lit.lit.lit).lit.lit.lit)
      [Item.ir ir40_L2, Item.lend (I k), Item.bend (2 : Nat), Item.ir ir40_T3] (st_spPR2 nn n f r a t k) =
    VC.split (decide ((↑k : Int) < (↑n : Int)))
      (VC.split (decide ((0 : Int) ≤ walkT a t f k))
        (VC.need ((2 : Int) ≠ (0 : Int))
          (VC.split ((↑(a / (2 : Nat) ^ k) : Int).tmod (2 : Int) == (0 : Int))
            (VC.need ((0 : Int) ≤ (↑k : Int) ∧ (↑k : Int).toNat < n)
              (VC.call (16 : Nat)
                [AV.p true (PV.v (Value.int IntKind.i64 (walkT a t f k))),
                  AV.p true (PV.v (Value.int IntKind.i64 (f (↑k : Int).toNat)))]
                [] (AI (joinT (walkT a t f k) (f (↑k : Int).toNat))) []
                (VC.need ((2 : Int) ≠ (0 : Int))
                  (VC.lend (I k)
                    {
                      env :=
                        [((0 : Nat), AV.p true (PV.v (Value.int IntKind.i64 r))),
                          ((1 : Nat),
                            AV.p true
                              (PV.v
                                (Value.int IntKind.i64
                                  (IntKind.i64.wrap ((↑(a / (2 : Nat) ^ k) : Int).tdiv (2 : Int)))))),
                          ((2 : Nat),
                            AV.p true (PV.v (Value.int IntKind.i64 (joinT (walkT a t f k) (f (↑k : Int).toNat))))),
                          ((3 : Nat), AV.p false (PV.sl nn (1 : Nat) n fun (i x : Nat) => PI (f i))),
                          ((11 : Nat),
                            AV.p true (PV.v (Value.int IntKind.i64 (IntKind.i64.wrap ((↑k : Int) + (1 : Int)))))),
                          ((46 : Nat), AV.p true (PV.v (Value.bool (decide ((0 : Int) ≤ walkT a t f k))))),
                          ((51 : Nat),
                            AV.p true (PV.v (Value.bool ((↑(a / (2 : Nat) ^ k) : Int).tmod (2 : Int) == (0 : Int)))))],
                      H := [] }))))
            (VC.need ((0 : Int) ≤ (↑k : Int) ∧ (↑k : Int).toNat < n)
              (VC.call (16 : Nat)
                [AV.p true (PV.v (Value.int IntKind.i64 (f (↑k : Int).toNat))),
                  AV.p true (PV.v (Value.int IntKind.i64 (walkT a t f k)))]
                [] (AI (joinT (f (↑k : Int).toNat) (walkT a t f k))) []
                (VC.need ((2 : Int) ≠ (0 : Int))
                  (VC.lend (I k)
                    {
                      env :=
                        [((0 : Nat), AV.p true (PV.v (Value.int IntKind.i64 r))),
                          ((1 : Nat),
                            AV.p true
                              (PV.v
                                (Value.int IntKind.i64
                                  (IntKind.i64.wrap ((↑(a / (2 : Nat) ^ k) : Int).tdiv (2 : Int)))))),
                          ((2 : Nat),
                            AV.p true (PV.v (Value.int IntKind.i64 (joinT (f (↑k : Int).toNat) (walkT a t f k))))),
                          ((3 : Nat), AV.p false (PV.sl nn (1 : Nat) n fun (i x : Nat) => PI (f i))),
                          ((11 : Nat),
                            AV.p true (PV.v (Value.int IntKind.i64 (IntKind.i64.wrap ((↑k : Int) + (1 : Int)))))),
                          ((46 : Nat), AV.p true (PV.v (Value.bool (decide ((0 : Int) ≤ walkT a t f k))))),
                          ((51 : Nat),
                            AV.p true (PV.v (Value.bool ((↑(a / (2 : Nat) ^ k) : Int).tmod (2 : Int) == (0 : Int)))))],
                      H := [] }))))))
        (VC.split (decide ((0 : Int) ≤ walkT a t f k)) VC.fail (VC.doneP (AV.p true (PV.v (Value.bool false))))))
      (VC.split (decide ((0 : Int) ≤ walkT a t f k)) (VC.doneP (AV.p true (PV.v (Value.bool (walkT a t f k == r)))))
        (VC.doneP (AV.p true (PV.v (Value.bool false))))) := by
  intros; kernel_rfl
def in_imPR (nn : Bool) (n : Nat) (f : Nat → Int) (r a t : Int) := (G0, res36, ([] : List (Nat × Ob)), [Item.ir ir36], start [AI r, AI a, AI t, IL nn n f] [])
theorem ev_imPR : ∀ (nn : Bool) (n : Nat) (f : Nat → Int) (r a t : Int),
  ev G0 res36 [] (3000 : Nat)
      (Or.nil.lit.lit.lit.lit.lit.lit.lit.lit.lit.lit.lit.lit.lit.lit.lit.split
        (Or.call [] (AB (tagB t)) []
            (Or.nil.lit.lit.lit.lit.lit.lit.lit.lit.lit.lit.lit.split
                  (Or.call []
                              (AB
                                (inB a (0 : Int)
                                  (IntKind.i64.wrap
                                    (IntKind.i64.wrap ((1 : Int) * (2 : Int) ^ min (↑n : Int).toNat IntKind.i64.bits) -
                                      (1 : Int)))))
                              []
                              (Or.nil.lit.lit.lit.split
                                    (Or.call [] (AB !allB (fun (i : Nat) => tagB (intOf (PI (f i)))) n) []
                                        (Or.nil.split Or.nil).lit).lit).lit.lit).lit.lit.lit.lit.lit).lit.lit).lit)
      [Item.ir ir36] (start [AI r, AI a, AI t, IL nn n f] []) =
    VC.split (decide ((4 : Int) < (↑n : Int))) (VC.doneP (AV.p true (PV.v (Value.bool false))))
      (VC.call (43 : Nat) [AV.p true (PV.v (Value.int IntKind.i64 t))] [] (AB (tagB t)) []
        (VC.split (!tagB t) (VC.doneP (AV.p true (PV.v (Value.bool false))))
          (VC.need ((0 : Int) ≤ (↑n : Int))
            (VC.call (47 : Nat)
              [AV.p true (PV.v (Value.int IntKind.i64 a)), AV.p true (PV.v (Value.int IntKind.i64 (0 : Int))),
                AV.p true
                  (PV.v
                    (Value.int IntKind.i64
                      (IntKind.i64.wrap
                        (IntKind.i64.wrap ((1 : Int) * (2 : Int) ^ min (↑n : Int).toNat IntKind.i64.bits) -
                          (1 : Int)))))]
              []
              (AB
                (inB a (0 : Int)
                  (IntKind.i64.wrap
                    (IntKind.i64.wrap ((1 : Int) * (2 : Int) ^ min (↑n : Int).toNat IntKind.i64.bits) - (1 : Int)))))
              []
              (VC.split
                (!inB a (0 : Int)
                    (IntKind.i64.wrap
                      (IntKind.i64.wrap ((1 : Int) * (2 : Int) ^ min (↑n : Int).toNat IntKind.i64.bits) - (1 : Int))))
                (VC.doneP (AV.p true (PV.v (Value.bool false))))
                (VC.call (59 : Nat)
                  [AV.p false (PV.sl nn (1 : Nat) n fun (i x : Nat) => PI (f i)), AV.cl (60 : Nat) [] []] []
                  (AB !allB (fun (i : Nat) => tagB (intOf (PI (f i)))) n) []
                  (VC.split (!allB (fun (i : Nat) => tagB (intOf (PI (f i)))) n)
                    (VC.doneP (AV.p true (PV.v (Value.bool false))))
                    (VC.loop ir36_L1 [Item.bend (0 : Nat), Item.ir ir36_T2]
                      {
                        env :=
                          [((0 : Nat), AV.p true (PV.v (Value.int IntKind.i64 r))),
                            ((1 : Nat), AV.p true (PV.v (Value.int IntKind.i64 a))),
                            ((2 : Nat), AV.p true (PV.v (Value.int IntKind.i64 t))),
                            ((3 : Nat), AV.p false (PV.sl nn (1 : Nat) n fun (i x : Nat) => PI (f i))),
                            ((8 : Nat), AV.p true (PV.v (Value.bool false))),
                            ((31 : Nat),
                              AV.p true (PV.v (Value.bool !allB (fun (i : Nat) => tagB (intOf (PI (f i)))) n))),
                            ((32 : Nat), AV.p false (PV.sl nn (1 : Nat) n fun (i x : Nat) => PI (f i))),
                            ((33 : Nat), AV.p true (PV.v (Value.int IntKind.i64 (↑n : Int)))),
                            ((34 : Nat), AV.p true (PV.v (Value.int IntKind.i64 (0 : Int))))],
                        H := [] })))))))) := by
  intros; kernel_rfl
def st_imPR (nn : Bool) (n : Nat) (f : Nat → Int) (r : Int) (a : Nat) (t : Int) (k : Nat) : St := ⟨[(0, AI r), (1, AI ((a / 2 ^ k : Nat) : Int)), (2, AI (walkT a t f k)), (32, IL nn n f), (33, AI n), (34, AI k)], []⟩
def r_imPR (nn : Bool) (n : Nat) (f : Nat → Int) (r : Int) (a : Nat) (t : Int) (I : Nat → St → Prop) (k : Nat) := (G0, res36, ([] : List (Nat × Ob)), [Item.ir ir36_L1, .lend (I k), Item.bend 0, Item.ir ir36_T2], st_imPR nn n f r a t k)
theorem evr_imPR : ∀ (nn : Bool) (n : Nat) (f : Nat → Int) (r : Int) (a : Nat) (t : Int) (I : Nat → St → Prop) (k : Nat),
  ev G0 res36 [] (3000 : Nat)
      (((Or.call [] (AI (joinT (walkT a t f k) (f (↑k : Int).toNat))) [] Or.nil).split
            (Or.call [] (AI (joinT (f (↑k : Int).toNat) (walkT a t f k))) [] Or.nil)).split
        Or.nil)
      [Item.ir ir36_L1, Item.lend (I k), Item.bend (0 : Nat), Item.ir ir36_T2] (st_imPR nn n f r a t k) =
    VC.split (decide ((↑k : Int) < (↑n : Int)))
      (VC.need ((0 : Int) ≤ (↑k : Int) ∧ (↑k : Int).toNat < n)
        (VC.need ((2 : Int) ≠ (0 : Int))
          (VC.split ((↑(a / (2 : Nat) ^ k) : Int).tmod (2 : Int) == (0 : Int))
            (VC.call (15 : Nat)
              [AV.p true (PV.v (Value.int IntKind.i64 (walkT a t f k))),
                AV.p true (PV.v (Value.int IntKind.i64 (f (↑k : Int).toNat)))]
              [] (AI (joinT (walkT a t f k) (f (↑k : Int).toNat))) []
              (VC.need ((2 : Int) ≠ (0 : Int))
                (VC.lend (I k)
                  {
                    env :=
                      [((0 : Nat), AV.p true (PV.v (Value.int IntKind.i64 r))),
                        ((1 : Nat),
                          AV.p true
                            (PV.v
                              (Value.int IntKind.i64
                                (IntKind.i64.wrap ((↑(a / (2 : Nat) ^ k) : Int).tdiv (2 : Int)))))),
                        ((2 : Nat),
                          AV.p true (PV.v (Value.int IntKind.i64 (joinT (walkT a t f k) (f (↑k : Int).toNat))))),
                        ((32 : Nat), AV.p false (PV.sl nn (1 : Nat) n fun (i x : Nat) => PI (f i))),
                        ((33 : Nat), AV.p true (PV.v (Value.int IntKind.i64 (↑n : Int)))),
                        ((34 : Nat),
                          AV.p true (PV.v (Value.int IntKind.i64 (IntKind.i64.wrap ((↑k : Int) + (1 : Int)))))),
                        ((35 : Nat), AV.p true (PV.v (Value.bool (decide ((↑k : Int) < (↑n : Int)))))),
                        ((10 : Nat), AV.p true (PV.v (Value.int IntKind.i64 (f (↑k : Int).toNat)))),
                        ((40 : Nat),
                          AV.p true (PV.v (Value.bool ((↑(a / (2 : Nat) ^ k) : Int).tmod (2 : Int) == (0 : Int)))))],
                    H := [] })))
            (VC.call (15 : Nat)
              [AV.p true (PV.v (Value.int IntKind.i64 (f (↑k : Int).toNat))),
                AV.p true (PV.v (Value.int IntKind.i64 (walkT a t f k)))]
              [] (AI (joinT (f (↑k : Int).toNat) (walkT a t f k))) []
              (VC.need ((2 : Int) ≠ (0 : Int))
                (VC.lend (I k)
                  {
                    env :=
                      [((0 : Nat), AV.p true (PV.v (Value.int IntKind.i64 r))),
                        ((1 : Nat),
                          AV.p true
                            (PV.v
                              (Value.int IntKind.i64
                                (IntKind.i64.wrap ((↑(a / (2 : Nat) ^ k) : Int).tdiv (2 : Int)))))),
                        ((2 : Nat),
                          AV.p true (PV.v (Value.int IntKind.i64 (joinT (f (↑k : Int).toNat) (walkT a t f k))))),
                        ((32 : Nat), AV.p false (PV.sl nn (1 : Nat) n fun (i x : Nat) => PI (f i))),
                        ((33 : Nat), AV.p true (PV.v (Value.int IntKind.i64 (↑n : Int)))),
                        ((34 : Nat),
                          AV.p true (PV.v (Value.int IntKind.i64 (IntKind.i64.wrap ((↑k : Int) + (1 : Int)))))),
                        ((35 : Nat), AV.p true (PV.v (Value.bool (decide ((↑k : Int) < (↑n : Int)))))),
                        ((10 : Nat), AV.p true (PV.v (Value.int IntKind.i64 (f (↑k : Int).toNat)))),
                        ((40 : Nat),
                          AV.p true (PV.v (Value.bool ((↑(a / (2 : Nat) ^ k) : Int).tmod (2 : Int) == (0 : Int)))))],
                    H := [] }))))))
      (VC.doneP (AV.p true (PV.v (Value.bool (walkT a t f k == r))))) := by
  intros; kernel_rfl
theorem pow_of {n : Nat} (h : n ≤ 4) : n = 0 ∨ n = 1 ∨ n = 2 ∨ n = 3 ∨ n = 4 := by omega
theorem p2_succ (k : Nat) : p2 (k + 1) = 2 * p2 k := by rw [p2, p2, Nat.pow_succ]; omega
theorem pow_le {n : Nat} (h : n ≤ 4) : p2 n ≤ 16 := by rcases pow_of h with rfl | rfl | rfl | rfl | rfl <;> decide
theorem par_even {x : Nat} (h : (((x : Int)).tmod 2 == (0 : Int)) = true) : x % 2 = 0 := by
  have e : (x : Int).tmod 2 = ((x % 2 : Nat) : Int) := by rw [Int.tmod_eq_emod_of_nonneg (by omega)]; omega
  rw [e, beq_iff_eq] at h
  omega
theorem par_odd {x : Nat} (h : (((x : Int)).tmod 2 == (0 : Int)) = false) : ¬ x % 2 = 0 := by
  have e : (x : Int).tmod 2 = ((x % 2 : Nat) : Int) := by rw [Int.tmod_eq_emod_of_nonneg (by omega)]; omega
  rw [e, beq_eq_false_iff_ne] at h
  omega
theorem walk_tag {a : Nat} {t : Int} {f : Nat → Int} (ht : tagB t = true) : ∀ {k : Nat}, (∀ j, j < k → tagB (f j) = true) → tagB (walkT a t f k) = true
  | 0, _ => ht
  | k + 1, h => by
    have h1 := walk_tag (a := a) ht (k := k) fun j hj => h j (by omega)
    have h2 := h k (by omega)
    simp only [walkT]
    split
    · exact joinT_tag h1 h2
    · exact joinT_tag h2 h1
theorem walk_bad {a : Nat} {t : Int} {f : Nat → Int} {k : Nat} (h : tagB (f k) = false) : walkT a t f (k + 1) = -1 := by
  simp only [walkT]
  split <;> simp [joinT, h]
theorem allB_bad {p : Nat → Bool} {n k : Nat} (hk : k < n) (h : p k = false) : allB p n = false := by
  cases h2 : allB p n with
  | false => rfl
  | true => rw [allB_iff.1 h2 k hk] at h; cases h

theorem c_spPR0 (nn : Bool) (n : Nat) (f : Nat → Int) (r a t : Int) (hn : n ≤ 1048576) : PRet Tryd.prog G0 40 [AI r, AI a, AI t, IL nn n f] (AB (prOk n f r a t)) := by
  refine PRet.by chk40 (ev_spPR nn n f r a t) ?_
  refine loop_by (st_spPR nn n f r a t) (fun k => k ≤ n ∧ k ≤ 4) (fun k => n - k) 0 [] [] [] (by simp) ?_ (evr_spPR nn n f r a t) fun k hk => ?_
  · simp [st_spPR, hbs, St.lowers, St.lower, stLe, leEnv, leObs, obLe, injB, pinC, AV.leC, AV.leCs, PV.leC, PV.Le_v, St.get, St.obj, look, rho, isNew, keptC, renH, Mode.ok, Mode.isZ, PV.isVal, PV.isNilSl, List.all_nil, List.all_cons, List.any_nil, List.any_cons, List.map_nil, List.map_cons, p2]
  · obtain ⟨hk, hk4⟩ := hk
    have hp := pow_le hk4
    have e1 : IntKind.i64.wrap ((k : Int) + 1) = ((k + 1 : Nat) : Int) := wrap_in (by omega) (by omega)
    have e2 : IntKind.i64.wrap (2 * (p2 k : Int)) = (p2 (k + 1) : Int) := (wrap_in (by omega) (by omega)).trans (by rw [p2_succ]; omega)
    have e3 : IntKind.i64.wrap ((p2 k : Int) - 1) = (p2 k : Int) - 1 := wrap_in (by omega) (by omega)
    simp only [VC.holds_split, VC.holds_need, VC.holds_doneP, VC.holds_done, VC.holds_either, VC.holds_call, VC.holds_callE, VC.holds_lend, VC.holds_stop, VC.holds_fail, decide_eq_true_eq, decide_eq_false_iff_not, e1, e2, e3]
    refine ⟨fun h1 => ⟨fun h2 => Again.mk (k + 1) [] [] [] ⟨by omega, by omega⟩ (by omega) ?_, fun h2 => ⟨fun h3 => ?_, fun h3 => ?_⟩⟩, fun h1 => ⟨fun h3 => ?_, fun h3 => ⟨c_l1In _ _ _, fun h4 => ?_, fun h4 => ⟨c_l1In _ _ _, fun h5 => ?_, fun h5 => ?_⟩⟩⟩⟩
    · simp [st_spPR, hbs, St.lowers, St.lower, stLe, leEnv, leObs, obLe, injB, pinC, AV.leC, AV.leCs, PV.leC, PV.Le_v, St.get, St.obj, look, rho, isNew, keptC, renH, Mode.ok, Mode.isZ, PV.isVal, PV.isNilSl, List.all_nil, List.all_cons, List.any_nil, List.any_cons, List.map_nil, List.map_cons]
    · simp [prOk, show ¬ n ≤ 4 by omega]
    · omega
    · simp [prOk, show ¬ n ≤ 4 by omega]
    · have : k = n := by omega
      subst this
      simp only [Bool.not_eq_true'] at h4
      simp [prOk, h4]
    · simp only [Bool.not_eq_true'] at h5
      simp [prOk, tagB, h5]
    · simp only [Bool.not_eq_false'] at h4 h5
      have hkn : k = n := by omega
      subst hkn
      have ha := h4
      have ht := h5
      have hb := inB_iff.1 ha
      obtain ⟨b, rfl⟩ : ∃ b : Nat, a = b := ⟨a.toNat, by omega⟩
      have ht' : tagB t = true := ht
      refine loop_by (st_spPR2 nn k f r b t) (fun i => i ≤ k ∧ ∀ j, j + 1 < i → tagB (f j) = true) (fun i => k - i) 0 [] [] [] (by simp) ?_ (evr_spPR2 nn k f r b t) fun i hi => ?_
      · simp [st_spPR2, hbs, St.lowers, St.lower, stLe, leEnv, leObs, obLe, injB, pinC, AV.leC, AV.leCs, PV.leC, PV.Le_v, St.get, St.obj, look, rho, isNew, keptC, renH, Mode.ok, Mode.isZ, PV.isVal, PV.isNilSl, List.all_nil, List.all_cons, List.any_nil, List.any_cons, List.map_nil, List.map_cons, walkT]
      · obtain ⟨hi, hall⟩ := hi
        have hbi : b / 2 ^ i ≤ b := Nat.div_le_self _ _
        have e4 : IntKind.i64.wrap ((i : Int) + 1) = ((i + 1 : Nat) : Int) := wrap_in (by omega) (by omega)
        simp only [VC.holds_split, VC.holds_need, VC.holds_doneP, VC.holds_done, VC.holds_either, VC.holds_call, VC.holds_callE, VC.holds_lend, VC.holds_stop, VC.holds_fail, decide_eq_true_eq, decide_eq_false_iff_not, Int.toNat_natCast, half_pow (a := b) (k := i) (by omega), e4]
        have good : 0 ≤ walkT b t f i → ∀ j, j < i → tagB (f j) = true := by
          intro h j hj
          by_cases hj2 : j + 1 < i
          · exact hall j hj2
          · have : i = j + 1 := by omega
            subst this
            cases h2 : tagB (f j) with
            | true => rfl
            | false => rw [walk_bad h2] at h; omega
        have bad : ¬ 0 ≤ walkT b t f i → allB (fun i => tagB (f i)) k = false := by
          intro h
          cases i with
          | zero => have := tagB_iff.1 ht'; simp only [walkT] at h; omega
          | succ i =>
            refine allB_bad (k := i) (by omega) ?_
            cases h2 : tagB (f i) with
            | false => rfl
            | true =>
              have := tagB_iff.1 (walk_tag (a := b) ht' (k := i + 1) fun j hj => by
                by_cases hj2 : j = i
                · subst hj2; exact h2
                · exact hall j (by omega))
              omega
        refine ⟨fun h1 => ⟨fun h2 => ⟨by omega, fun h3 => ⟨by omega, c_spJT _ _, by omega, ?_⟩, fun h3 => ⟨by omega, c_spJT _ _, by omega, ?_⟩⟩, fun h2 => ⟨fun h3 => (h2 h3).elim, fun h3 => ?_⟩⟩, fun h1 => ⟨fun h2 => ?_, fun h2 => ?_⟩⟩
        · refine Again.mk (i + 1) [] [] [] ⟨by omega, fun j hj => good h2 j (by omega)⟩ (by omega) ?_
          simp [st_spPR2, hbs, St.lowers, St.lower, stLe, leEnv, leObs, obLe, injB, pinC, AV.leC, AV.leCs, PV.leC, PV.Le_v, St.get, St.obj, look, rho, isNew, keptC, renH, Mode.ok, Mode.isZ, PV.isVal, PV.isNilSl, List.all_nil, List.all_cons, List.any_nil, List.any_cons, List.map_nil, List.map_cons, walkT, par_even h3]
        · refine Again.mk (i + 1) [] [] [] ⟨by omega, fun j hj => good h2 j (by omega)⟩ (by omega) ?_
          simp [st_spPR2, hbs, St.lowers, St.lower, stLe, leEnv, leObs, obLe, injB, pinC, AV.leC, AV.leCs, PV.leC, PV.Le_v, St.get, St.obj, look, rho, isNew, keptC, renH, Mode.ok, Mode.isZ, PV.isVal, PV.isNilSl, List.all_nil, List.all_cons, List.any_nil, List.any_cons, List.map_nil, List.map_cons, walkT, par_odd h3]
        · simp [prOk, bad h2]
        · have : i = k := by omega
          subst this
          have : allB (fun i => tagB (f i)) i = true := allB_iff.2 (good h2)
          simp [prOk, ha, ht', this, hk4]
        · have : i = k := by omega
          subst this
          simp [prOk, bad h2]
theorem c_imPR0 (nn : Bool) (n : Nat) (f : Nat → Int) (r a t : Int) (hn : n ≤ 1048576) : PRet Tryd.prog G0 36 [AI r, AI a, AI t, IL nn n f] (AB (prOk n f r a t)) := by
  refine PRet.by chk36 (ev_imPR nn n f r a t) ?_
  simp only [VC.holds_split, VC.holds_need, VC.holds_doneP, VC.holds_done, VC.holds_either, VC.holds_call, VC.holds_callE, VC.holds_lend, VC.holds_stop, VC.holds_fail, decide_eq_true_eq, decide_eq_false_iff_not, intOf]
  refine ⟨fun h1 => ?_, fun h1 => ⟨c_isTag _, fun h2 => ?_, fun h2 => ⟨by omega, c_in _ _ _, fun h3 => ?_, fun h3 => ⟨c_contP _ _ _ (int_cells _ _) hn, fun h4 => ?_, fun h4 => ?_⟩⟩⟩⟩
  · simp [prOk, show ¬ n ≤ 4 by omega]
  · simp only [Bool.not_eq_true'] at h2
    simp [prOk, h2]
  all_goals
    have hn4 : n ≤ 4 := by omega
    have e3 : IntKind.i64.wrap (IntKind.i64.wrap (1 * 2 ^ min (n : Int).toNat IntKind.i64.bits) - 1) = (p2 n : Int) - 1 := by rcases pow_of hn4 with rfl | rfl | rfl | rfl | rfl <;> decide
    simp only [e3] at h3
  · simp only [Bool.not_eq_true'] at h3
    simp [prOk, h3]
  · simp only [Bool.not_eq_true'] at h4
    simp [prOk, h4]
  · simp only [Bool.not_eq_false'] at h2 h3 h4
    have hb := inB_iff.1 h3
    have hp := pow_le hn4
    obtain ⟨b, rfl⟩ : ∃ b : Nat, a = b := ⟨a.toNat, by omega⟩
    refine loop_by (st_imPR nn n f r b t) (fun i => i ≤ n) (fun i => n - i) 0 [] [] [] (by simp) ?_ (evr_imPR nn n f r b t) fun i hi => ?_
    · simp [st_imPR, hbs, St.lowers, St.lower, stLe, leEnv, leObs, obLe, injB, pinC, AV.leC, AV.leCs, PV.leC, PV.Le_v, St.get, St.obj, look, rho, isNew, keptC, renH, Mode.ok, Mode.isZ, PV.isVal, PV.isNilSl, List.all_nil, List.all_cons, List.any_nil, List.any_cons, List.map_nil, List.map_cons, walkT]
    · have hbi : b / 2 ^ i ≤ b := Nat.div_le_self _ _
      have e4 : IntKind.i64.wrap ((i : Int) + 1) = ((i + 1 : Nat) : Int) := wrap_in (by omega) (by omega)
      simp only [VC.holds_split, VC.holds_need, VC.holds_doneP, VC.holds_done, VC.holds_either, VC.holds_call, VC.holds_callE, VC.holds_lend, VC.holds_stop, VC.holds_fail, decide_eq_true_eq, decide_eq_false_iff_not, Int.toNat_natCast, half_pow (a := b) (k := i) (by omega), e4]
      refine ⟨fun h5 => ⟨by omega, by omega, fun h6 => ⟨c_imJT _ _, by omega, Again.mk (i + 1) [] [] [] (by omega) (by omega) ?_⟩, fun h6 => ⟨c_imJT _ _, by omega, Again.mk (i + 1) [] [] [] (by omega) (by omega) ?_⟩⟩, fun h5 => ?_⟩
      · simp [st_imPR, hbs, St.lowers, St.lower, stLe, leEnv, leObs, obLe, injB, pinC, AV.leC, AV.leCs, PV.leC, PV.Le_v, St.get, St.obj, look, rho, isNew, keptC, renH, Mode.ok, Mode.isZ, PV.isVal, PV.isNilSl, List.all_nil, List.all_cons, List.any_nil, List.any_cons, List.map_nil, List.map_cons, walkT, par_even h6]
      · simp [st_imPR, hbs, St.lowers, St.lower, stLe, leEnv, leObs, obLe, injB, pinC, AV.leC, AV.leCs, PV.leC, PV.Le_v, St.get, St.obj, look, rho, isNew, keptC, renH, Mode.ok, Mode.isZ, PV.isVal, PV.isNilSl, List.all_nil, List.all_cons, List.any_nil, List.any_cons, List.map_nil, List.map_cons, walkT, par_odd h6]
      · have : i = n := by omega
        subst this
        simp [prOk, h2, h3, h4, hn4]
theorem IL_le3 {nn : Bool} {n : Nat} {g : Nat → Nat → PV} {r a t : Int} (hg : IntCells 1 n g) : AV.lePs [AI r, AI a, AI t, SL nn 1 n g] [AI r, AI a, AI t, IL nn n fun i => intOf (g i 0)] := ⟨AV.leP_p _ _, AV.leP_p _ _, AV.leP_p _ _, AV.leP_ints hg, trivial⟩
theorem c_spPR (nn : Bool) (n : Nat) (g : Nat → Nat → PV) (r a t : Int) (hg : IntCells 1 n g) (hn : n ≤ 1048576) : PRet Tryd.prog G0 40 [AI r, AI a, AI t, SL nn 1 n g] (AB (prOk n (fun i => intOf (g i 0)) r a t)) := (c_spPR0 nn n _ r a t hn).args (IL_le3 hg)
theorem c_imPR (nn : Bool) (n : Nat) (g : Nat → Nat → PV) (r a t : Int) (hg : IntCells 1 n g) (hn : n ≤ 1048576) : PRet Tryd.prog G0 36 [AI r, AI a, AI t, SL nn 1 n g] (AB (prOk n (fun i => intOf (g i 0)) r a t)) := (c_imPR0 nn n _ r a t hn).args (IL_le3 hg)
end Go.Gw
