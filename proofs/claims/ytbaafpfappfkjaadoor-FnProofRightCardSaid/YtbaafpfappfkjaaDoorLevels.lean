/- The levels of a tree of tags; with no condition. -/
import Derived.Test.YtbaafpfappfkjaaDoorTags
import Derived.KernelRfl
namespace Go.Gw
open Go Go.Proofs
set_option linter.unusedSimpArgs false
set_option linter.unusedVariables false
set_option maxRecDepth 100000
def ir64 : Ir :=
  (.seq
  (.reg [] [o 2 (.mov (cb false))])
  (.seq
  (.reg [3, 4, 5] [o 3 (.mov (tt 0)),
    o 4 (.call 43 [(tt 3)]),
    o 5 (.un .not (tt 4)),
    o 2 (.mov (tt 5))])
  .ret))
def keep64 : List Nat := [0, 2]
def res64 : List RI := [.tmp 2]
theorem chk64 : chk Tryd.prog 64 1 keep64 = some (ir64, res64) := by kernel_rfl
def ir65_L1 : Ir :=
  (.seq
  (.reg [] [o 9 (.bin .lss (tt 8) (tt 7))])
  (.seq
  (.cond (tt 9)
   .skip
   (.exit 0))
  (.seq
  (.block 1
   (.seq
   (.reg [10] [o 10 (.mov (tt 8)),
     o 5 (.mov (tt 10))])
   (.seq
   (.reg [11, 12, 13, 14, 15] [o 11 (.mov (tt 1)),
     o 12 (.mov (tt 0)),
     o 13 (.mov (tt 5)),
     o 14 (.idx 1 (tt 12) (tt 13)),
     o 15 (.load false 1 (tt 14)),
     o 16 (.callv (tt 11) [(tt 15)])])
   (.cond (tt 16)
    (.seq
    (.reg [17] [o 17 (.mov (tt 5)),
      o 4 (.mov (tt 17))])
    .ret)
    .skip))))
  (.reg [18] [o 18 (.bin .add (tt 8) (ci 1)),
    o 8 (.mov (tt 18))]))))
def ir65_T2 : Ir :=
  (.seq
  (.reg [] [o 4 (.mov (ci (-1)))])
  .ret)
def ir65 : Ir :=
  (.seq
  (.reg [] [o 4 (.mov (ci 0))])
  (.seq
  (.seq
  (.reg [6] [o 6 (.mov (tt 0)),
    o 7 (.len (tt 6)),
    o 8 (.mov (ci 0))])
  (.block 0
   (.loop ir65_L1)))
  ir65_T2))
def keep65 : List Nat := [0, 1, 4, 5, 7, 8, 9, 16]
def res65 : List RI := [.tmp 4]
theorem chk65 : chk Tryd.prog 65 2 keep65 = some (ir65, res65) := by kernel_rfl
def ir59 : Ir :=
  (.seq
  (.reg [] [o 4 (.mov (cb false))])
  (.seq
  (.reg [5, 6, 7, 8] [o 5 (.mov (tt 0)),
    o 6 (.mov (tt 1)),
    o 7 (.call 65 [(tt 5), (tt 6)]),
    o 8 (.bin .geq (tt 7) (ci 0)),
    o 4 (.mov (tt 8))])
  .ret))
def keep59 : List Nat := [0, 1, 4]
def res59 : List RI := [.tmp 4]
theorem chk59 : chk Tryd.prog 59 2 keep59 = some (ir59, res59) := by kernel_rfl
def ir56_L1 : Ir :=
  (.seq
  (.seq
  (.reg [28, 29, 30] [o 28 (.mov (tt 6)),
    o 29 (.mov (tt 0)),
    o 30 (.len (tt 29)),
    o 31 (.bin .lss (tt 28) (tt 30))])
  (.cond (tt 31)
   .skip
   (.exit 2)))
  (.seq
  (.block 3
   (.dreg [34, 35, 36, 37, 38, 39, 40, 41, 42, 43, 44, 45, 46] [0, 0, 0, 6, 14, 0, 0, 64, 224, 480, 1022, 2046, 4095, 8191] [(4, 1038), (9, 1043), (10, 1044), (10, 2044), (10, 3044), (10, 4044), (10, 5044), (10, 6044), (10, 7044), (10, 8044), (11, 45), (12, 46)] [o 34 (.mov (tt 5)),
     o 35 (.mov (tt 0)),
     o 36 (.mov (tt 6)),
     o 37 (.idx 1 (tt 35) (tt 36)),
     o 38 (.load false 1 (tt 37)),
     o 39 (.mov (tt 0)),
     o 40 (.mov (tt 6)),
     o 41 (.bin .add (tt 40) (ci 1)),
     o 42 (.idx 1 (tt 39) (tt 41)),
     o 43 (.load false 1 (tt 42)),
     o 44 (.call 15 [(tt 38), (tt 43)]),
     o 45 (.mkSl 1 1 [(.int .i64 0)] [(0, (tt 44))]),
     o 46 (.app 1 8 true (tt 34) (tt 45)),
     o 5 (.mov (tt 46))]))
  (.reg [32, 33] [o 32 (.mov (tt 6)),
    o 33 (.bin .add (tt 32) (ci 2)),
    o 6 (.mov (tt 33))])))
def ir56_T2 : Ir :=
  (.seq
  (.reg [47, 48, 49, 50] [o 47 (.mov (tt 4)),
    o 48 (.mov (tt 5)),
    o 49 (.mkSl 1 1 [(.slice none 0 0)] [(0, (tt 48))]),
    o 50 (.app 1 24 false (tt 47) (tt 49)),
    o 4 (.mov (tt 50))])
  (.reg [51] [o 51 (.mov (tt 5)),
    o 0 (.mov (tt 51))]))
def ir56_L3 : Ir :=
  (.seq
  (.seq
  (.reg [25, 26] [o 25 (.mov (tt 0)),
    o 26 (.len (tt 25)),
    o 27 (.bin .gtr (tt 26) (ci 1))])
  (.cond (tt 27)
   .skip
   (.exit 0)))
  (.block 1
   (.seq
   (.reg [] [o 5 (.mov (.const (.slice none 0 0)))])
   (.seq
   (.seq
   (.reg [] [o 6 (.mov (ci 0))])
   (.block 2
    (.loop ir56_L1)))
   ir56_T2))))
def ir56_T4 : Ir :=
  (.seq
  (.reg [52] [o 52 (.mov (tt 4)),
    o 2 (.mov (tt 52))])
  .ret)
def ir56 : Ir :=
  (.seq
  (.reg [] [o 2 (.mov (.const (.slice none 0 0)))])
  (.seq
  (.reg [7, 8] [o 7 (.mov (tt 0)),
    o 8 (.len (tt 7)),
    o 3 (.mov (tt 8))])
  (.seq
  (.seq
  (.reg [9, 10, 11, 12, 13, 14, 15, 16, 17, 18, 19, 20, 21] [o 9 (.mov (tt 3)),
    o 10 (.call 47 [(tt 9), (ci 1), (ci 16)]),
    o 11 (.un .not (tt 10)),
    o 12 (.mov (tt 11)),
    og 13 12 false (.mov (tt 3)),
    og 14 12 false (.mov (tt 3)),
    og 15 12 false (.bin .sub (tt 14) (ci 1)),
    og 16 12 false (.bin .and (tt 13) (tt 15)),
    og 17 12 false (.bin .neq (tt 16) (ci 0)),
    o 18 (.pick (tt 12) (cb true) (tt 17)),
    o 19 (.mov (tt 18)),
    og 20 19 false (.mov (tt 0)),
    og 21 19 false (.call 59 [(tt 20), (.func 64)]),
    o 22 (.pick (tt 19) (cb true) (tt 21))])
  (.cond (tt 22)
   (.seq
   (.reg [] [o 2 (.mov (.const (.slice none 0 0)))])
   .ret)
   .skip))
  (.seq
  (.reg [23, 24] [o 23 (.mov (tt 0)),
    o 24 (.mkSl 1 1 [(.slice none 0 0)] [(0, (tt 23))]),
    o 4 (.mov (tt 24))])
  (.seq
  (.block 0
   (.loop ir56_L3))
  ir56_T4)))))
def keep56 : List Nat := [0, 2, 3, 4, 5, 6, 22, 27, 31]
def res56 : List RI := [.tmp 2]
theorem chk56 : chk Tryd.prog 56 1 keep56 = some (ir56, res56) := by kernel_rfl

def in_lam (x : Int) := (G0, res64, ([] : List (Nat × Ob)), [Item.ir ir64], start [AI x] [])
theorem ev_lam : ∀ (x : Int),
  ev G0 res64 [] (3000 : Nat) (Or.call [] (AB (tagB x)) [] Or.nil) [Item.ir ir64] (start [AI x] []) =
    VC.call (43 : Nat) [AV.p true (PV.v (Value.int IntKind.i64 x))] [] (AB (tagB x)) []
      (VC.doneP (AV.p true (PV.v (Value.bool !tagB x)))) := by
  intros; kernel_rfl
theorem c_lam (x : Int) : PRet Tryd.prog G0 64 [AI x] (AB (!tagB x)) := by
  refine PRet.by chk64 (ev_lam x) ?_
  simp only [VC.holds_split, VC.holds_need, VC.holds_doneP, VC.holds_done, VC.holds_either, VC.holds_call, VC.holds_callE, VC.holds_lend, VC.holds_stop, VC.holds_fail, decide_eq_true_eq, decide_eq_false_iff_not]
  exact ⟨c_isTag _, by simp⟩

abbrev badFn : AV := .cl 64 [] []
def in_idx (nn : Bool) (n : Nat) (f : Nat → Int) := (G0, res65, ([] : List (Nat × Ob)), [Item.ir ir65], start [IL nn n f, badFn] [])
theorem ev_idx : ∀ (nn : Bool) (n : Nat) (f : Nat → Int),
  ev G0 res65 [] (3000 : Nat) Or.nil [Item.ir ir65] (start [IL nn n f, badFn] []) =
    VC.loop ir65_L1 [Item.bend (0 : Nat), Item.ir ir65_T2]
      {
        env :=
          [((0 : Nat), AV.p false (PV.sl nn (1 : Nat) n fun (i x : Nat) => PI (f i))),
            ((1 : Nat), AV.cl (64 : Nat) [] []), ((4 : Nat), AV.p true (PV.v (Value.int IntKind.i64 (0 : Int)))),
            ((7 : Nat), AV.p true (PV.v (Value.int IntKind.i64 (↑n : Int)))),
            ((8 : Nat), AV.p true (PV.v (Value.int IntKind.i64 (0 : Int))))],
        H := [] } := by
  intros; kernel_rfl
def st_idx (nn : Bool) (n : Nat) (f : Nat → Int) (k : Nat) : St := ⟨[(0, IL nn n f), (1, badFn), (7, AI n), (8, AI k)], []⟩
def r_idx (nn : Bool) (n : Nat) (f : Nat → Int) (I : Nat → St → Prop) (k : Nat) := (G0, res65, ([] : List (Nat × Ob)), [Item.ir ir65_L1, .lend (I k), Item.bend 0, Item.ir ir65_T2], st_idx nn n f k)
theorem evr_idx : ∀ (nn : Bool) (n : Nat) (f : Nat → Int) (I : Nat → St → Prop) (k : Nat),
  ev G0 res65 [] (3000 : Nat) ((Or.call [] (AB !tagB (f (↑k : Int).toNat)) [] (Or.nil.split Or.nil)).split Or.nil)
      [Item.ir ir65_L1, Item.lend (I k), Item.bend (0 : Nat), Item.ir ir65_T2] (st_idx nn n f k) =
    VC.split (decide ((↑k : Int) < (↑n : Int)))
      (VC.need ((0 : Int) ≤ (↑k : Int) ∧ (↑k : Int).toNat < n)
        (VC.call (64 : Nat) [AV.p true (PV.v (Value.int IntKind.i64 (f (↑k : Int).toNat)))] []
          (AB !tagB (f (↑k : Int).toNat)) []
          (VC.split (!tagB (f (↑k : Int).toNat)) (VC.doneP (AV.p true (PV.v (Value.int IntKind.i64 (↑k : Int)))))
            (VC.lend (I k)
              {
                env :=
                  [((0 : Nat), AV.p false (PV.sl nn (1 : Nat) n fun (i x : Nat) => PI (f i))),
                    ((1 : Nat), AV.cl (64 : Nat) [] []),
                    ((7 : Nat), AV.p true (PV.v (Value.int IntKind.i64 (↑n : Int)))),
                    ((8 : Nat), AV.p true (PV.v (Value.int IntKind.i64 (IntKind.i64.wrap ((↑k : Int) + (1 : Int)))))),
                    ((9 : Nat), AV.p true (PV.v (Value.bool (decide ((↑k : Int) < (↑n : Int)))))),
                    ((5 : Nat), AV.p true (PV.v (Value.int IntKind.i64 (↑k : Int)))),
                    ((16 : Nat), AV.p true (PV.v (Value.bool !tagB (f (↑k : Int).toNat))))],
                H := [] }))))
      (VC.doneP (AV.p true (PV.v (Value.int IntKind.i64 (-1 : Int))))) := by
  intros; kernel_rfl
theorem c_idx0 (nn : Bool) (n : Nat) (f : Nat → Int) (hn : n ≤ 1048576) : PSome Tryd.prog G0 65 [IL nn n f, badFn] [] Int (fun r => decide (0 ≤ r) = !allB (fun i => tagB (f i)) n) (fun r => AI r) (fun _ => []) := by
  refine PCall.by chk65 rfl (ev_idx nn n f) ?_
  refine loop_by (st_idx nn n f) (fun k => k ≤ n ∧ ∀ j, j < k → tagB (f j) = true) (fun k => n - k) 0 [] [] [] (by simp) ?_ (evr_idx nn n f) fun k hk => ?_
  · simp [st_idx, hbs, St.lowers, St.lower, stLe, leEnv, leObs, obLe, injB, pinC, AV.leC, AV.leCs, PV.leC, PV.Le_v, St.get, St.obj, look, rho, isNew, keptC, renH, Mode.ok, Mode.isZ, PV.isVal, PV.isNilSl, List.all_nil, List.all_cons, List.any_nil, List.any_cons, List.map_nil, List.map_cons]
  · obtain ⟨hk, hall⟩ := hk
    simp only [VC.holds_split, VC.holds_need, VC.holds_doneP, VC.holds_done, VC.holds_either, VC.holds_call, VC.holds_callE, VC.holds_lend, VC.holds_stop, VC.holds_fail, decide_eq_true_eq, decide_eq_false_iff_not, Int.toNat_natCast]
    refine ⟨fun h1 => ⟨by omega, c_lam _, fun h2 => ?_, fun h2 => Again.mk (k + 1) [] [] [] ⟨by omega, fun j hj => ?_⟩ (by omega) ?_⟩, fun h1 => ?_⟩
    · have : allB (fun i => tagB (f i)) n = false := by
        cases h3 : allB (fun i => tagB (f i)) n with
        | false => rfl
        | true =>
          have := allB_iff.1 h3 k (by omega)
          simp only [Bool.not_eq_true'] at h2 this
          rw [h2] at this; cases this
      exact ⟨k, by simp [this], rfl, trivial⟩
    · simp only [Bool.not_eq_false'] at h2
      by_cases h3 : j = k
      · subst h3; exact h2
      · exact hall j (by omega)
    · have e1 : IntKind.i64.wrap ((k : Int) + 1) = ((k + 1 : Nat) : Int) := wrap_in (by omega) (by omega)
      simp only [e1, st_idx]
      simp [hbs, St.lowers, St.lower, stLe, leEnv, leObs, obLe, injB, pinC, AV.leC, AV.leCs, PV.leC, PV.Le_v, St.get, St.obj, look, rho, isNew, keptC, renH, Mode.ok, Mode.isZ, PV.isVal, PV.isNilSl, List.all_nil, List.all_cons, List.any_nil, List.any_cons, List.map_nil, List.map_cons]
    · have : k = n := by omega
      subst this
      have : allB (fun i => tagB (f i)) k = true := allB_iff.2 hall
      exact ⟨-1, by simp [this], rfl, trivial⟩
theorem PSome.args {P : Program} {G : List (Nat × PV)} {f : FuncId} {args args' : List AV} {H H' : List (Nat × Ob)} {α : Type} {φ : α → Prop} {r : α → AV} {H2 : α → List (Nat × Ob)} (h : PSome P G f args' H' α φ r H2) (ha : AV.lePs args args') (hH : leHs H H') : PSome P G f args H α φ r H2 := PCall.args h ha hH
theorem c_idx (nn : Bool) (n : Nat) (g : Nat → Nat → PV) (hg : IntCells 1 n g) (hn : n ≤ 1048576) : PSome Tryd.prog G0 65 [SL nn 1 n g, badFn] [] Int (fun r => decide (0 ≤ r) = !allB (fun i => tagB (intOf (g i 0))) n) (fun r => AI r) (fun _ => []) :=
  (c_idx0 nn n _ hn).args ⟨AV.leP_ints hg, ⟨rfl, trivial, trivial⟩, trivial⟩ trivial
def in_cont (nn : Bool) (n : Nat) (f : Nat → Int) := (G0, res59, ([] : List (Nat × Ob)), [Item.ir ir59], start [IL nn n f, badFn] [])
theorem ev_cont : ∀ (nn : Bool) (n : Nat) (f : Nat → Int),
  ev G0 res59 [] (3000 : Nat)
      (Or.callE [] Int (fun (r : Int) => decide ((0 : Int) ≤ r) = !allB (fun (i : Nat) => tagB (intOf (PI (f i)))) n)
        (fun (r : Int) => AI r) (fun (x : Int) => []) fun (r : Int) => Or.nil)
      [Item.ir ir59] (start [IL nn n f, badFn] []) =
    VC.callE Int (65 : Nat) [AV.p false (PV.sl nn (1 : Nat) n fun (i x : Nat) => PI (f i)), AV.cl (64 : Nat) [] []] []
      (fun (r : Int) => decide ((0 : Int) ≤ r) = !allB (fun (i : Nat) => tagB (intOf (PI (f i)))) n)
      (fun (r : Int) => AI r) (fun (x : Int) => []) fun (r : Int) =>
      VC.doneP (AV.p true (PV.v (Value.bool (decide ((0 : Int) ≤ r))))) := by
  intros; kernel_rfl
theorem c_cont0 (nn : Bool) (n : Nat) (f : Nat → Int) (hn : n ≤ 1048576) : PRet Tryd.prog G0 59 [IL nn n f, badFn] (AB (!allB (fun i => tagB (f i)) n)) := by
  refine PRet.by chk59 (ev_cont nn n f) ?_
  simp only [VC.holds_split, VC.holds_need, VC.holds_doneP, VC.holds_done, VC.holds_either, VC.holds_call, VC.holds_callE, VC.holds_lend, VC.holds_stop, VC.holds_fail, decide_eq_true_eq, decide_eq_false_iff_not, intOf]
  refine ⟨c_idx nn n _ (int_cells _ _) hn, fun r hr => ?_⟩
  simp [hr]
theorem c_cont (nn : Bool) (n : Nat) (g : Nat → Nat → PV) (hg : IntCells 1 n g) (hn : n ≤ 1048576) : PRet Tryd.prog G0 59 [SL nn 1 n g, badFn] (AB (!allB (fun i => tagB (intOf (g i 0))) n)) :=
  (c_cont0 nn n _ hn).args ⟨AV.leP_ints hg, ⟨rfl, trivial, trivial⟩, trivial⟩

/-! ### levels -/
abbrev LV (k n : Nat) (f : Nat → Int) : Nat → Nat → PV := fun i _ => .sl false 1 (n / 2 ^ i) (fun j _ => PI (upN f i j))
def in_levels (nn : Bool) (n : Nat) (f : Nat → Int) := (G0, res56, ([] : List (Nat × Ob)), [Item.ir ir56], start [IL nn n f] [])
theorem ev_levels : ∀ (nn : Bool) (n : Nat) (f : Nat → Int),
  ev G0 res56 [] (3000 : Nat)
      (Or.call [] (AB (inB (↑n : Int) (1 : Int) (16 : Int))) []
        (Or.nil.lit.lit.lit.lit.lit.lit.lit.lit.lit.split
          (Or.nil.lit.lit.lit.split
                      (Or.call [] (AB !allB (fun (i : Nat) => tagB (intOf (PI (f i)))) n) []
                          (Or.nil.split Or.nil).lit).lit).lit.lit.lit.lit.lit))
      [Item.ir ir56] (start [IL nn n f] []) =
    VC.call (47 : Nat)
      [AV.p true (PV.v (Value.int IntKind.i64 (↑n : Int))), AV.p true (PV.v (Value.int IntKind.i64 (1 : Int))),
        AV.p true (PV.v (Value.int IntKind.i64 (16 : Int)))]
      [] (AB (inB (↑n : Int) (1 : Int) (16 : Int))) []
      (VC.split (!inB (↑n : Int) (1 : Int) (16 : Int))
        (VC.done
          {
            env :=
              [((0 : Nat), AV.p false (PV.sl nn (1 : Nat) n fun (i x : Nat) => PI (f i))),
                ((2 : Nat), AV.p true (PV.v (Value.slice none (0 : Nat) (0 : Nat)))),
                ((3 : Nat), AV.p true (PV.v (Value.int IntKind.i64 (↑n : Int)))),
                ((22 : Nat), AV.p true (PV.v (Value.bool true)))],
            H := [] })
        (VC.split
          (IntKind.i64.wrap
              (↑(BitVec.ofInt IntKind.i64.bits (↑n : Int) &&&
                      BitVec.ofInt IntKind.i64.bits (IntKind.i64.wrap ((↑n : Int) - (1 : Int)))).toNat :
                Int) !=
            (0 : Int))
          (VC.done
            {
              env :=
                [((0 : Nat), AV.p false (PV.sl nn (1 : Nat) n fun (i x : Nat) => PI (f i))),
                  ((2 : Nat), AV.p true (PV.v (Value.slice none (0 : Nat) (0 : Nat)))),
                  ((3 : Nat), AV.p true (PV.v (Value.int IntKind.i64 (↑n : Int)))),
                  ((22 : Nat), AV.p true (PV.v (Value.bool true)))],
              H := [] })
          (VC.call (59 : Nat) [AV.p false (PV.sl nn (1 : Nat) n fun (i x : Nat) => PI (f i)), AV.cl (64 : Nat) [] []] []
            (AB !allB (fun (i : Nat) => tagB (intOf (PI (f i)))) n) []
            (VC.split (!allB (fun (i : Nat) => tagB (intOf (PI (f i)))) n)
              (VC.done
                {
                  env :=
                    [((0 : Nat), AV.p false (PV.sl nn (1 : Nat) n fun (i x : Nat) => PI (f i))),
                      ((2 : Nat), AV.p true (PV.v (Value.slice none (0 : Nat) (0 : Nat)))),
                      ((3 : Nat), AV.p true (PV.v (Value.int IntKind.i64 (↑n : Int)))),
                      ((22 : Nat), AV.p true (PV.v (Value.bool !allB (fun (i : Nat) => tagB (intOf (PI (f i)))) n)))],
                  H := [] })
              (VC.loop ir56_L3 [Item.bend (0 : Nat), Item.ir ir56_T4]
                {
                  env :=
                    [((0 : Nat), AV.p false (PV.sl nn (1 : Nat) n fun (i x : Nat) => PI (f i))),
                      ((2 : Nat), AV.p true (PV.v (Value.slice none (0 : Nat) (0 : Nat)))),
                      ((3 : Nat), AV.p true (PV.v (Value.int IntKind.i64 (↑n : Int)))),
                      ((22 : Nat), AV.p true (PV.v (Value.bool !allB (fun (i : Nat) => tagB (intOf (PI (f i)))) n))),
                      ((4 : Nat), AV.own (24 : Nat))],
                  H :=
                    [((24 : Nat),
                        Ob.row Mode.z true (1 : Nat) (1 : Nat)
                          (setG [((0 : Nat), (0 : Nat), PV.sl nn (1 : Nat) n fun (i x : Nat) => PI (f i))]
                            fun (x j : Nat) => PV.v ([Value.slice none (0 : Nat) (0 : Nat)].getD j undef))
                          [])] }))))) := by
  intros; kernel_rfl
def st_out (n : Nat) (f : Nat → Int) (k : Nat) : St := ⟨[(0, IL false (n / 2 ^ k) (upN f k)), (4, .own 24)], [(24, .row .z true 1 (k + 1) (LV k n f) [])]⟩
def r_out (n : Nat) (f : Nat → Int) (I : Nat → St → Prop) (k : Nat) := (G0, res56, ([] : List (Nat × Ob)), [Item.ir ir56_L3, .lend (I k), Item.bend 0, Item.ir ir56_T4], st_out n f k)
theorem evr_out : ∀ (n : Nat) (f : Nat → Int) (I : Nat → St → Prop) (k : Nat),
  ev G0 res56 [] (3000 : Nat) (Or.nil.split Or.nil)
      [Item.ir ir56_L3, Item.lend (I k), Item.bend (0 : Nat), Item.ir ir56_T4] (st_out n f k) =
    VC.split (decide ((1 : Int) < (↑(n / (2 : Nat) ^ k) : Int)))
      (VC.loop ir56_L1
        [Item.bend (2 : Nat), Item.ir ir56_T2, Item.bend (1 : Nat), Item.lend (I k), Item.bend (0 : Nat),
          Item.ir ir56_T4]
        {
          env :=
            [((0 : Nat), AV.p false (PV.sl false (1 : Nat) (n / (2 : Nat) ^ k) fun (i x : Nat) => PI (upN f k i))),
              ((4 : Nat), AV.own (24 : Nat)),
              ((27 : Nat), AV.p true (PV.v (Value.bool (decide ((1 : Int) < (↑(n / (2 : Nat) ^ k) : Int)))))),
              ((5 : Nat), AV.p true (PV.v (Value.slice none (0 : Nat) (0 : Nat)))),
              ((6 : Nat), AV.p true (PV.v (Value.int IntKind.i64 (0 : Int))))],
          H := [((24 : Nat), Ob.row Mode.z true (1 : Nat) (k + (1 : Nat)) (LV k n f) [])] })
      (VC.done
        {
          env :=
            [((0 : Nat), AV.p false (PV.sl false (1 : Nat) (n / (2 : Nat) ^ k) fun (i x : Nat) => PI (upN f k i))),
              ((4 : Nat), AV.own (24 : Nat)),
              ((27 : Nat), AV.p true (PV.v (Value.bool (decide ((1 : Int) < (↑(n / (2 : Nat) ^ k) : Int)))))),
              ((2 : Nat), AV.own (24 : Nat))],
          H := [((24 : Nat), Ob.row Mode.z true (1 : Nat) (k + (1 : Nat)) (LV k n f) [])] }) := by
  intros; kernel_rfl
def st_in (n : Nat) (f : Nat → Int) (k m : Nat) (h : Nat → Int) (j : Nat) : St := ⟨[(0, IL false m h), (4, .own 24), (5, .own 5), (6, AI (2 * j))], [(24, .row .z true 1 (k + 1) (LV k n f) []), (5, .row .u false 1 j (fun i _ => PI (upF h i)) [])]⟩
def r_in (n : Nat) (f : Nat → Int) (k m : Nat) (h : Nat → Int) (I : Nat → St → Prop) (J : Nat → St → Prop) (j : Nat) := (G0, res56, ([] : List (Nat × Ob)), [Item.ir ir56_L1, .lend (J j), Item.bend 2, Item.ir ir56_T2, Item.bend 1, .lend (I k), Item.bend 0, Item.ir ir56_T4], st_in n f k m h j)
theorem evr_in : ∀ (n : Nat) (f : Nat → Int) (k m : Nat) (h : Nat → Int) (I J : Nat → St → Prop) (j : Nat),
  ev G0 res56 [] (3000 : Nat)
      ((Or.call []
            (AI
              (joinT (h ((2 : Int) * (↑j : Int)).toNat)
                (h (IntKind.i64.wrap ((2 : Int) * (↑j : Int) + (1 : Int))).toNat)))
            [] Or.nil).split
        (Or.stop (1 : Nat)))
      [Item.ir ir56_L1, Item.lend (J j), Item.bend (2 : Nat), Item.ir ir56_T2, Item.bend (1 : Nat), Item.lend (I k),
        Item.bend (0 : Nat), Item.ir ir56_T4]
      (st_in n f k m h j) =
    VC.split (decide ((2 : Int) * (↑j : Int) < (↑m : Int)))
      (VC.need ((0 : Int) ≤ (2 : Int) * (↑j : Int) ∧ ((2 : Int) * (↑j : Int)).toNat < m)
        (VC.need
          ((0 : Int) ≤ IntKind.i64.wrap ((2 : Int) * (↑j : Int) + (1 : Int)) ∧
            (IntKind.i64.wrap ((2 : Int) * (↑j : Int) + (1 : Int))).toNat < m)
          (VC.call (15 : Nat)
            [AV.p true (PV.v (Value.int IntKind.i64 (h ((2 : Int) * (↑j : Int)).toNat))),
              AV.p true
                (PV.v (Value.int IntKind.i64 (h (IntKind.i64.wrap ((2 : Int) * (↑j : Int) + (1 : Int))).toNat)))]
            []
            (AI
              (joinT (h ((2 : Int) * (↑j : Int)).toNat)
                (h (IntKind.i64.wrap ((2 : Int) * (↑j : Int) + (1 : Int))).toNat)))
            []
            (VC.need
              (((j + (1 : Nat)) * (8 : Nat) ≤ (140737488355328 : Nat) ∧
                  (↑(j + (1 : Nat)) : Int) ≤ (9223372036854775807 : Int)) ∧
                allV (1 : Nat) (1 : Nat)
                  (setG
                    [((0 : Nat), (0 : Nat),
                        PV.v
                          (Value.int IntKind.i64
                            (joinT (h ((2 : Int) * (↑j : Int)).toNat)
                              (h (IntKind.i64.wrap ((2 : Int) * (↑j : Int) + (1 : Int))).toNat))))]
                    fun (x j_1 : Nat) => PV.v ([Value.int IntKind.i64 (0 : Int)].getD j_1 undef)))
              (VC.lend (J j)
                {
                  env :=
                    [((0 : Nat), AV.p false (PV.sl false (1 : Nat) m fun (i x : Nat) => PI (h i))),
                      ((4 : Nat), AV.own (24 : Nat)), ((5 : Nat), AV.own (46 : Nat)),
                      ((6 : Nat),
                        AV.p true
                          (PV.v (Value.int IntKind.i64 (IntKind.i64.wrap ((2 : Int) * (↑j : Int) + (2 : Int)))))),
                      ((31 : Nat), AV.p true (PV.v (Value.bool (decide ((2 : Int) * (↑j : Int) < (↑m : Int))))))],
                  H :=
                    [((24 : Nat), Ob.row Mode.z true (1 : Nat) (k + (1 : Nat)) (LV k n f) []),
                      ((46 : Nat),
                        Ob.row Mode.u false (1 : Nat) (j + (1 : Nat))
                          (fun (a b : Nat) =>
                            if a < j then PI (upF h a)
                            else
                              setG
                                [((0 : Nat), (0 : Nat),
                                    PV.v
                                      (Value.int IntKind.i64
                                        (joinT (h ((2 : Int) * (↑j : Int)).toNat)
                                          (h (IntKind.i64.wrap ((2 : Int) * (↑j : Int) + (1 : Int))).toNat))))]
                                (fun (x j_1 : Nat) => PV.v ([Value.int IntKind.i64 (0 : Int)].getD j_1 undef)) (a - j)
                                b)
                          [])] })))))
      (VC.stop [Item.ir ir56_T2, Item.bend (1 : Nat), Item.lend (I k), Item.bend (0 : Nat), Item.ir ir56_T4]
        {
          env :=
            [((0 : Nat), AV.p false (PV.sl false (1 : Nat) m fun (i x : Nat) => PI (h i))),
              ((4 : Nat), AV.own (24 : Nat)), ((5 : Nat), AV.own (5 : Nat)),
              ((6 : Nat), AV.p true (PV.v (Value.int IntKind.i64 ((2 : Int) * (↑j : Int))))),
              ((31 : Nat), AV.p true (PV.v (Value.bool (decide ((2 : Int) * (↑j : Int) < (↑m : Int))))))],
          H :=
            [((24 : Nat), Ob.row Mode.z true (1 : Nat) (k + (1 : Nat)) (LV k n f) []),
              ((5 : Nat), Ob.row Mode.u false (1 : Nat) j (fun (i x : Nat) => PI (upF h i)) [])] }) := by
  intros; kernel_rfl
def st_mid (n : Nat) (f : Nat → Int) (k m : Nat) (h : Nat → Int) : St := ⟨[(4, .own 24), (5, .p true (.sl false 1 m (fun i _ => PI (h i))))], [(24, .row .z true 1 (k + 1) (LV k n f) [])]⟩
def r_mid (n : Nat) (f : Nat → Int) (k m : Nat) (h : Nat → Int) (I : Nat → St → Prop) := (G0, res56, ([] : List (Nat × Ob)), [Item.ir ir56_T2, Item.bend 1, .lend (I k), Item.bend 0, Item.ir ir56_T4], st_mid n f k m h)
theorem evr_mid : ∀ (n : Nat) (f : Nat → Int) (k m : Nat) (h : Nat → Int) (I : Nat → St → Prop),
  ev G0 res56 [] (3000 : Nat) Or.nil
      [Item.ir ir56_T2, Item.bend (1 : Nat), Item.lend (I k), Item.bend (0 : Nat), Item.ir ir56_T4] (st_mid n f k m h) =
    VC.need
      (((k + (1 : Nat) + (1 : Nat)) * (24 : Nat) ≤ (140737488355328 : Nat) ∧
          (↑(k + (1 : Nat) + (1 : Nat)) : Int) ≤ (9223372036854775807 : Int)) ∧
        allOne (1 : Nat) (1 : Nat)
          (setG [((0 : Nat), (0 : Nat), PV.sl false (1 : Nat) m fun (i x : Nat) => PI (h i))] fun (x j : Nat) =>
            PV.v ([Value.slice none (0 : Nat) (0 : Nat)].getD j undef)))
      (VC.lend (I k)
        {
          env :=
            [((4 : Nat), AV.own (50 : Nat)),
              ((5 : Nat), AV.p true (PV.sl false (1 : Nat) m fun (i x : Nat) => PI (h i))),
              ((0 : Nat), AV.p true (PV.sl false (1 : Nat) m fun (i x : Nat) => PI (h i)))],
          H :=
            [((50 : Nat),
                Ob.row Mode.z true (1 : Nat) (k + (1 : Nat) + (1 : Nat))
                  (fun (a b : Nat) =>
                    if a < k + (1 : Nat) then LV k n f a b
                    else
                      setG [((0 : Nat), (0 : Nat), PV.sl false (1 : Nat) m fun (i x : Nat) => PI (h i))]
                        (fun (x j : Nat) => PV.v ([Value.slice none (0 : Nat) (0 : Nat)].getD j undef))
                        (a - (k + (1 : Nat))) b)
                  [])] }) := by
  intros; kernel_rfl
theorem tree_even {n k : Nat} (h : n = 1 ∨ n = 2 ∨ n = 4 ∨ n = 8 ∨ n = 16) (h1 : 1 < n / 2 ^ k) (hk : k ≤ 4) : n / 2 ^ k % 2 = 0 := by
  have hk' : k = 0 ∨ k = 1 ∨ k = 2 ∨ k = 3 ∨ k = 4 := by omega
  rcases h with rfl | rfl | rfl | rfl | rfl <;> rcases hk' with rfl | rfl | rfl | rfl | rfl <;> first
    | (exfalso; revert h1; decide)
    | decide
theorem c_levels_ok0 (nn : Bool) (n : Nat) (f : Nat → Int) (ht : treeOk n f = true) : PObj Tryd.prog G0 56 [IL nn n f] [] (.own 0) [(0, .row .z true 1 (Nat.log2 n + 1) (LV 0 n f) [])] := by
  have hN := treeOk_n ht
  have hall : allB (fun i => tagB (f i)) n = true := by simp only [treeOk, Bool.and_eq_true] at ht; exact ht.2
  refine PObj.by chk56 rfl (ev_levels nn n f) ?_
  simp only [VC.holds_split, VC.holds_need, VC.holds_doneP, VC.holds_done, VC.holds_either, VC.holds_call, VC.holds_callE, VC.holds_lend, VC.holds_stop, VC.holds_fail, decide_eq_true_eq, decide_eq_false_iff_not, intOf]
  refine ⟨c_in _ _ _, fun h => ?_, fun h => ⟨fun h2 => ?_, fun h2 => ⟨c_cont _ _ _ (int_cells _ _) (by omega), fun h3 => ?_, fun h3 => ?_⟩⟩⟩
  · exfalso
    simp only [Bool.not_eq_true'] at h
    have : inB (n : Int) 1 16 = true := inB_iff.2 (by omega)
    rw [this] at h; cases h
  · exfalso
    rcases hN with rfl | rfl | rfl | rfl | rfl <;> revert h2 <;> decide
  · simp [hall] at h3
  · refine loop_by (st_out n f) (fun k => 0 < n / 2 ^ k ∧ k ≤ 4) (fun k => 4 - k) 0 [] [] [] (by simp; omega) ?_ (evr_out n f) fun k hk => ?_
    · simp [st_out, hbs, St.lowers, St.lower, stLe, leEnv, leObs, obLe, injB, pinC, AV.leC, AV.leCs, PV.leC, PV.Le_v, St.get, St.obj, look, rho, isNew, keptC, renH, Mode.ok, Mode.isZ, PV.isVal, PV.isNilSl, List.all_nil, List.all_cons, List.any_nil, List.any_cons, List.map_nil, List.map_cons, upN]
      exact PV.Le_sl ⟨fun h => (by cases h), rfl, by simp, fun i j hi hj => .refl _⟩
    · obtain ⟨h4, hk⟩ := hk
      simp only [VC.holds_split, VC.holds_need, VC.holds_doneP, VC.holds_done, VC.holds_either, VC.holds_call, VC.holds_callE, VC.holds_lend, VC.holds_stop, VC.holds_fail, decide_eq_true_eq, decide_eq_false_iff_not]
      refine ⟨fun h5 => ?_, fun h5 => ?_⟩
      · have hstep := tree_step (k := k) hN (by omega) hk
        refine loop_by (st_in n f k (n / 2 ^ k) (upN f k)) (fun j => 2 * j ≤ n / 2 ^ k) (fun j => n / 2 ^ k - j) 0 [] [] [5] (by omega) ?_ (fun J j => evr_in n f k _ _ _ J j) fun j hj => ?_
        · simp [st_in, hbs, St.lowers, St.lower, stLe, leEnv, leObs, obLe, injB, pinC, AV.leC, AV.leCs, PV.leC, PV.Le_v, St.get, St.obj, look, rho, isNew, keptC, renH, Mode.ok, Mode.isZ, PV.isVal, PV.isNilSl, List.all_nil, List.all_cons, List.any_nil, List.any_cons, List.map_nil, List.map_cons]
          intro i hi
          exact .refl _
        · simp only [VC.holds_split, VC.holds_need, VC.holds_doneP, VC.holds_done, VC.holds_either, VC.holds_call, VC.holds_callE, VC.holds_lend, VC.holds_stop, VC.holds_fail, decide_eq_true_eq, decide_eq_false_iff_not]
          have hle : n / 2 ^ k ≤ n := Nat.div_le_self _ _
          have hev := tree_even (k := k) hN (by omega) hk
          have e1 : IntKind.i64.wrap (2 * (j : Int) + 1) = ((2 * j + 1 : Nat) : Int) := (wrap_in (by omega) (by omega)).trans (by omega)
          have e2 : IntKind.i64.wrap (2 * (j : Int) + 2) = 2 * ((j + 1 : Nat) : Int) := (wrap_in (by omega) (by omega)).trans (by omega)
          have e3 : (2 * (j : Int)).toNat = 2 * j := by omega
          simp only [e1, e2, e3, Int.toNat_natCast]
          refine ⟨fun h6 => ⟨by omega, by omega, c_imJT _ _, ⟨by omega, ?_⟩, Again.mk (j + 1) [] [(5, 46)] [] (by omega) (by omega) ?_⟩, fun h6 => ?_⟩
          · intro i j hi hj
            obtain rfl : i = 0 := by omega
            obtain rfl : j = 0 := by omega
            rfl
          · simp [st_in, hbs, St.lowers, St.lower, stLe, leEnv, leObs, obLe, injB, pinC, AV.leC, AV.leCs, PV.leC, PV.Le_v, St.get, St.obj, look, rho, isNew, keptC, renH, Mode.ok, Mode.isZ, PV.isVal, PV.isNilSl, List.all_nil, List.all_cons, List.any_nil, List.any_cons, List.map_nil, List.map_cons]
            refine ⟨fun i hi => .refl _, fun i hi => ?_⟩
            by_cases h7 : i < j
            · simp [h7]; exact .refl _
            · have : i = j := by omega
              subst this
              simp [setG, cellSet, upF]; exact .refl _
          · have hm : j = n / 2 ^ (k + 1) := by rw [Nat.pow_succ, ← Nat.div_div_eq_div_mul]; omega
            refine M.by [] [] [] ?_ (evr_mid n f k j (upF (upN f k)) _) ?_
            · simp [st_mid, hbs, St.lowers, St.lower, stLe, leEnv, leObs, obLe, injB, pinC, AV.leC, AV.leCs, PV.leC, PV.Le_v, St.get, St.obj, look, rho, isNew, keptC, renH, Mode.ok, Mode.isZ, PV.isVal, PV.isNilSl, List.all_nil, List.all_cons, List.any_nil, List.any_cons, List.map_nil, List.map_cons]
              exact fun i hi => .refl _
            · simp only [VC.holds_split, VC.holds_need, VC.holds_doneP, VC.holds_done, VC.holds_either, VC.holds_call, VC.holds_callE, VC.holds_lend, VC.holds_stop, VC.holds_fail, decide_eq_true_eq, decide_eq_false_iff_not]
              refine ⟨⟨by omega, ?_⟩, Again.mk (k + 1) [] [(24, 50)] [] hstep (by omega) ?_⟩
              · intro i j hi hj
                obtain rfl : i = 0 := by omega
                obtain rfl : j = 0 := by omega
                rfl
              · subst hm
                simp [st_out, hbs, St.lowers, St.lower, stLe, leEnv, leObs, obLe, injB, pinC, AV.leC, AV.leCs, PV.leC, PV.Le_v, St.get, St.obj, look, rho, isNew, keptC, renH, Mode.ok, Mode.isZ, PV.isVal, PV.isNilSl, List.all_nil, List.all_cons, List.any_nil, List.any_cons, List.map_nil, List.map_cons, upN]
                intro i hi
                by_cases h8 : i < k + 1
                · simp [h8]; exact .refl _
                · have : i = k + 1 := by omega
                  subst this
                  simp [setG, cellSet]
                  exact .refl _
      · have := tree_end (k := k) hN h4 (by omega) hk
        subst this
        refine ResOk.mk [] [(0, 24)] [] _ _ ?_ ⟨rfl, rfl⟩
        simp [doneC, resOf, resAV, tup, pinR, hbs, St.lowers, St.lower, stLe, leEnv, leObs, obLe, injB, pinC, AV.leC, AV.leCs, PV.leC, PV.Le_v, St.get, St.obj, look, rho, isNew, keptC, renH, Mode.ok, Mode.isZ, PV.isVal, PV.isNilSl, List.all_nil, List.all_cons, List.any_nil, List.any_cons, List.map_nil, List.map_cons, res56]
        intro i hi
        exact .refl _
theorem c_levels_no0 (nn : Bool) (n : Nat) (f : Nat → Int) (hn : n ≤ 1048576) (ht : treeOk n f = false) : PRet Tryd.prog G0 56 [IL nn n f] (.p true (.v (.slice none 0 0))) := by
  refine PRet.by chk56 (ev_levels nn n f) ?_
  simp only [VC.holds_split, VC.holds_need, VC.holds_doneP, VC.holds_done, VC.holds_either, VC.holds_call, VC.holds_callE, VC.holds_lend, VC.holds_stop, VC.holds_fail, decide_eq_true_eq, decide_eq_false_iff_not, intOf]
  refine ⟨c_in _ _ _, fun h => ?_, fun h => ⟨fun h2 => ?_, fun h2 => ⟨c_cont _ _ _ (int_cells _ _) (by omega), fun h3 => ?_, fun h3 => ?_⟩⟩⟩
  · refine ResOk.mk [] [] [] _ _ ?_ ⟨rfl, rfl⟩
    simp [doneC, resOf, resAV, tup, pinR, hbs, St.lowers, St.lower, stLe, leEnv, leObs, obLe, injB, pinC, AV.leC, AV.leCs, PV.leC, PV.Le_v, St.get, St.obj, look, rho, isNew, keptC, renH, Mode.ok, Mode.isZ, PV.isVal, PV.isNilSl, List.all_nil, List.all_cons, List.any_nil, List.any_cons, List.map_nil, List.map_cons, res56]
  · refine ResOk.mk [] [] [] _ _ ?_ ⟨rfl, rfl⟩
    simp [doneC, resOf, resAV, tup, pinR, hbs, St.lowers, St.lower, stLe, leEnv, leObs, obLe, injB, pinC, AV.leC, AV.leCs, PV.leC, PV.Le_v, St.get, St.obj, look, rho, isNew, keptC, renH, Mode.ok, Mode.isZ, PV.isVal, PV.isNilSl, List.all_nil, List.all_cons, List.any_nil, List.any_cons, List.map_nil, List.map_cons, res56]
  · refine ResOk.mk [] [] [] _ _ ?_ ⟨rfl, rfl⟩
    simp [doneC, resOf, resAV, tup, pinR, hbs, St.lowers, St.lower, stLe, leEnv, leObs, obLe, injB, pinC, AV.leC, AV.leCs, PV.leC, PV.Le_v, St.get, St.obj, look, rho, isNew, keptC, renH, Mode.ok, Mode.isZ, PV.isVal, PV.isNilSl, List.all_nil, List.all_cons, List.any_nil, List.any_cons, List.map_nil, List.map_cons, res56]
  · exfalso
    simp only [Bool.not_eq_false'] at h h3
    have hb := inB_iff.1 h
    have hN : treeN n = true := by
      have : n = 1 ∨ n = 2 ∨ n = 3 ∨ n = 4 ∨ n = 5 ∨ n = 6 ∨ n = 7 ∨ n = 8 ∨ n = 9 ∨ n = 10 ∨ n = 11 ∨ n = 12 ∨ n = 13 ∨ n = 14 ∨ n = 15 ∨ n = 16 := by omega
      clear h3 ht hb h hn
      rcases this with rfl | rfl | rfl | rfl | rfl | rfl | rfl | rfl | rfl | rfl | rfl | rfl | rfl | rfl | rfl | rfl <;> first
        | rfl
        | (exfalso; revert h2; decide)
    simp [treeOk, hN, h3] at ht
theorem c_levels_ok (nn : Bool) (n : Nat) (g : Nat → Nat → PV) (hg : IntCells 1 n g) (ht : treeOk n (fun i => intOf (g i 0)) = true) : PObj Tryd.prog G0 56 [SL nn 1 n g] [] (.own 0) [(0, .row .z true 1 (Nat.log2 n + 1) (LV 0 n fun i => intOf (g i 0)) [])] := (c_levels_ok0 nn n _ ht).args (IL_le hg) trivial
theorem c_levels_no (nn : Bool) (n : Nat) (g : Nat → Nat → PV) (hg : IntCells 1 n g) (hn : n ≤ 1048576) (ht : treeOk n (fun i => intOf (g i 0)) = false) : PRet Tryd.prog G0 56 [SL nn 1 n g] (.p true (.v (.slice none 0 0))) := (c_levels_no0 nn n _ hn ht).args (IL_le hg)
end Go.Gw
