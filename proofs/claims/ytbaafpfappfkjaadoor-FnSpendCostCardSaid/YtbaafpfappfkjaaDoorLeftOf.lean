/- What is left of a ledger; with no condition. -/
import Derived.Test.YtbaafpfappfkjaaDoorLedger
import Derived.KernelRfl
namespace Go.Gw
open Go Go.Proofs
set_option linter.unusedSimpArgs false
set_option linter.unusedVariables false
set_option maxRecDepth 100000
def ir27_L1 : Ir :=
  (.seq
  (.seq
  (.reg [10, 11, 12, 13] [o 10 (.mov (tt 4)),
    o 11 (.fadr 1 (tt 1)),
    o 12 (.load false 1 (tt 11)),
    o 13 (.len (tt 12)),
    o 14 (.bin .lss (tt 10) (tt 13))])
  (.cond (tt 14)
   .skip
   (.exit 0)))
  (.seq
  (.block 1
   (.reg [17, 18, 19, 20, 21, 22, 23] [o 17 (.mov (tt 3)),
     o 18 (.fadr 1 (tt 1)),
     o 19 (.load false 1 (tt 18)),
     o 20 (.mov (tt 4)),
     o 21 (.idx 1 (tt 19) (tt 20)),
     o 22 (.load false 1 (tt 21)),
     o 23 (.bin .sub (tt 17) (tt 22)),
     o 3 (.mov (tt 23))]))
  (.reg [15, 16] [o 15 (.mov (tt 4)),
    o 16 (.bin .add (tt 15) (ci 1)),
    o 4 (.mov (tt 16))])))
def ir27_T2 : Ir :=
  (.seq
  (.reg [24] [o 24 (.mov (tt 3)),
    o 2 (.mov (tt 24))])
  .ret)
def ir27 : Ir :=
  (.seq
  (.reg [] [o 1 (.box 2 (tt 0)),
    o 2 (.mov (ci 0))])
  (.seq
  (.seq
  (.reg [5, 6] [o 5 (.load true 2 (tt 1)),
    o 6 (.call 20 [(tt 5)]),
    o 7 (.un .not (tt 6))])
  (.cond (tt 7)
   (.seq
   (.reg [] [o 2 (.mov (ci (-1)))])
   .ret)
   .skip))
  (.seq
  (.reg [8, 9] [o 8 (.fadr 0 (tt 1)),
    o 9 (.load false 1 (tt 8)),
    o 3 (.mov (tt 9))])
  (.seq
  (.seq
  (.reg [] [o 4 (.mov (ci 0))])
  (.block 0
   (.loop ir27_L1)))
  ir27_T2))))
def keep27 : List Nat := [0, 1, 2, 3, 4, 7, 14]
def res27 : List RI := [.tmp 2]
theorem chk27 : chk Tryd.prog 27 1 keep27 = some (ir27, res27) := by kernel_rfl
def ir26_L1 : Ir :=
  (.seq
  (.reg [] [o 15 (.bin .lss (tt 14) (tt 13))])
  (.seq
  (.cond (tt 15)
   .skip
   (.exit 0))
  (.seq
  (.block 1
   (.seq
   (.reg [16, 17] [o 16 (.idx 1 (tt 12) (tt 14)),
     o 17 (.load false 1 (tt 16)),
     o 5 (.mov (tt 17))])
   (.reg [18, 19, 20] [o 18 (.mov (tt 3)),
     o 19 (.mov (tt 5)),
     o 20 (.bin .sub (tt 18) (tt 19)),
     o 3 (.mov (tt 20))])))
  (.reg [21] [o 21 (.bin .add (tt 14) (ci 1)),
    o 14 (.mov (tt 21))]))))
def ir26_T2 : Ir :=
  (.seq
  (.reg [22] [o 22 (.mov (tt 3)),
    o 2 (.mov (tt 22))])
  .ret)
def ir26 : Ir :=
  (.seq
  (.reg [] [o 1 (.box 2 (tt 0)),
    o 2 (.mov (ci 0))])
  (.seq
  (.seq
  (.reg [6, 7] [o 6 (.load true 2 (tt 1)),
    o 7 (.call 19 [(tt 6)]),
    o 8 (.un .not (tt 7))])
  (.cond (tt 8)
   (.seq
   (.reg [] [o 2 (.mov (ci (-1)))])
   .ret)
   .skip))
  (.seq
  (.reg [9, 10] [o 9 (.fadr 0 (tt 1)),
    o 10 (.load false 1 (tt 9)),
    o 3 (.mov (tt 10))])
  (.seq
  (.seq
  (.reg [11] [o 11 (.fadr 1 (tt 1)),
    o 12 (.load false 1 (tt 11)),
    o 13 (.len (tt 12)),
    o 14 (.mov (ci 0))])
  (.block 0
   (.loop ir26_L1)))
  ir26_T2))))
def keep26 : List Nat := [0, 1, 2, 3, 5, 8, 12, 13, 14, 15]
def res26 : List RI := [.tmp 2]
theorem chk26 : chk Tryd.prog 26 1 keep26 = some (ir26, res26) := by kernel_rfl

def leftOf (b : Int) (n : Nat) (f : Nat → Int) : Int := if ledgerValid b n f then b - sumF f n else -1
theorem lv_all {b : Int} {n : Nat} {f : Nat → Int} (h : ledgerValid b n f = true) : (0 ≤ b ∧ b ≤ 100000) ∧ n ≤ 20 ∧ (∀ i, i < n → 1 ≤ f i ∧ f i ≤ 100000) ∧ sumF f n ≤ b := by
  simp only [ledgerValid, Bool.and_eq_true, decide_eq_true_eq] at h
  exact ⟨inB_iff.1 h.1.1.1, h.1.1.2, fun i hi => inB_iff.1 (allB_iff.1 h.1.2 i hi), h.2⟩
theorem leftOf_congr {b : Int} {n : Nat} {f g : Nat → Int} (h : ∀ i, i < n → f i = g i) : leftOf b n f = leftOf b n g := by
  unfold leftOf; rw [ledgerValid_congr h, sumF_congr h]

def in_spLO (b : Int) (nn : Bool) (n : Nat) (f : Nat → Int) := (G0, res27, ([] : List (Nat × Ob)), [Item.ir ir27], start [.ag [AI b, IL nn n f]] [])
theorem ev_spLO : ∀ (b : Int) (nn : Bool) (n : Nat) (f : Nat → Int),
  ev G0 res27 [] (3000 : Nat)
      (Or.call [] (AB (ledgerValid b n fun (i : Nat) => intOf (PI (f i)))) [] (Or.nil.split Or.nil)) [Item.ir ir27]
      (start [AV.ag [AI b, IL nn n f]] []) =
    VC.call (20 : Nat)
      [AV.ag
          [AV.p true (PV.v (Value.int IntKind.i64 b)), AV.p false (PV.sl nn (1 : Nat) n fun (i x : Nat) => PI (f i))]]
      [] (AB (ledgerValid b n fun (i : Nat) => intOf (PI (f i)))) []
      (VC.split (!ledgerValid b n fun (i : Nat) => intOf (PI (f i)))
        (VC.doneP (AV.p true (PV.v (Value.int IntKind.i64 (-1 : Int)))))
        (VC.loop ir27_L1 [Item.bend (0 : Nat), Item.ir ir27_T2]
          {
            env :=
              [((0 : Nat),
                  AV.ag
                    [AV.p true (PV.v (Value.int IntKind.i64 b)),
                      AV.p false (PV.sl nn (1 : Nat) n fun (i x : Nat) => PI (f i))]),
                ((1 : Nat), AV.adr (1 : Nat) (0 : Nat)),
                ((2 : Nat), AV.p true (PV.v (Value.int IntKind.i64 (0 : Int)))),
                ((7 : Nat), AV.p true (PV.v (Value.bool !ledgerValid b n fun (i : Nat) => intOf (PI (f i))))),
                ((3 : Nat), AV.p true (PV.v (Value.int IntKind.i64 b))),
                ((4 : Nat), AV.p true (PV.v (Value.int IntKind.i64 (0 : Int))))],
            H :=
              [((1 : Nat),
                  Ob.box
                    [AV.p true (PV.v (Value.int IntKind.i64 b)),
                      AV.p false (PV.sl nn (1 : Nat) n fun (i x : Nat) => PI (f i))])] })) := by
  intros; kernel_rfl
def st_spLO (b : Int) (nn : Bool) (n : Nat) (f : Nat → Int) (k : Nat) : St := ⟨[(1, .adr 1 0), (3, AI (b - sumF f k)), (4, AI k)], [(1, .box [AI b, IL nn n f])]⟩
def r_spLO (b : Int) (nn : Bool) (n : Nat) (f : Nat → Int) (I : Nat → St → Prop) (k : Nat) := (G0, res27, ([] : List (Nat × Ob)), [Item.ir ir27_L1, .lend (I k), Item.bend 0, Item.ir ir27_T2], st_spLO b nn n f k)
theorem evr_spLO : ∀ (b : Int) (nn : Bool) (n : Nat) (f : Nat → Int) (I : Nat → St → Prop) (k : Nat),
  ev G0 res27 [] (3000 : Nat) (Or.nil.split Or.nil)
      [Item.ir ir27_L1, Item.lend (I k), Item.bend (0 : Nat), Item.ir ir27_T2] (st_spLO b nn n f k) =
    VC.split (decide ((↑k : Int) < (↑n : Int)))
      (VC.need ((0 : Int) ≤ (↑k : Int) ∧ (↑k : Int).toNat < n)
        (VC.lend (I k)
          {
            env :=
              [((1 : Nat), AV.adr (1 : Nat) (0 : Nat)),
                ((3 : Nat),
                  AV.p true (PV.v (Value.int IntKind.i64 (IntKind.i64.wrap (b - sumF f k - f (↑k : Int).toNat))))),
                ((4 : Nat), AV.p true (PV.v (Value.int IntKind.i64 (IntKind.i64.wrap ((↑k : Int) + (1 : Int)))))),
                ((14 : Nat), AV.p true (PV.v (Value.bool (decide ((↑k : Int) < (↑n : Int))))))],
            H :=
              [((1 : Nat),
                  Ob.box
                    [AV.p true (PV.v (Value.int IntKind.i64 b)),
                      AV.p false (PV.sl nn (1 : Nat) n fun (i x : Nat) => PI (f i))])] }))
      (VC.doneP (AV.p true (PV.v (Value.int IntKind.i64 (b - sumF f k))))) := by
  intros; kernel_rfl
theorem c_spLO0 (b : Int) (nn : Bool) (n : Nat) (f : Nat → Int) (hn : n ≤ 1048576000) : PRet Tryd.prog G0 27 [.ag [AI b, IL nn n f]] (AI (leftOf b n f)) := by
  refine PRet.by chk27 (ev_spLO b nn n f) ?_
  simp only [VC.holds_split, VC.holds_need, VC.holds_doneP, VC.holds_done, VC.holds_either, VC.holds_call, VC.holds_callE, VC.holds_lend, VC.holds_stop, VC.holds_fail, decide_eq_true_eq, decide_eq_false_iff_not]
  refine ⟨c_spLV _ _ _ _ (int_cells _ _) hn, fun h => ?_, fun h => ?_⟩
  · simp only [Bool.not_eq_true', intOf] at h
    simp [leftOf, h]
  · simp only [Bool.not_eq_false', intOf] at h
    obtain ⟨hb, hn2, hall, hs⟩ := lv_all h
    refine loop_by (st_spLO b nn n f) (fun k => k ≤ n) (fun k => n - k) 0 [] [] [] (by omega) ?_ (evr_spLO b nn n f) fun k hk => ?_
    · simp [st_spLO, hbs, St.lowers, St.lower, stLe, leEnv, leObs, obLe, injB, pinC, AV.leC, AV.leCs, PV.leC, PV.Le_v, St.get, St.obj, look, rho, isNew, keptC, renH, Mode.ok, Mode.isZ, PV.isVal, PV.isNilSl, List.all_nil, List.all_cons, List.any_nil, List.any_cons, List.map_nil, List.map_cons, sumF]
    · have hsum := sumF_bnd (f := f) (lo := 1) (hi := 100000) (k := k) fun i hi => hall i (by omega)
      simp only [VC.holds_split, VC.holds_need, VC.holds_doneP, VC.holds_done, VC.holds_either, VC.holds_call, VC.holds_callE, VC.holds_lend, VC.holds_stop, VC.holds_fail, decide_eq_true_eq, decide_eq_false_iff_not]
      refine ⟨fun h1 => ⟨by omega, Again.mk (k + 1) [] [] [] (by omega) (by omega) ?_⟩, fun h1 => ?_⟩
      · have := hall k (by omega)
        have e1 : IntKind.i64.wrap ((k : Int) + 1) = ((k + 1 : Nat) : Int) := wrap_in (by omega) (by omega)
        have e2 : IntKind.i64.wrap (b - sumF f k - f k) = b - sumF f (k + 1) := (wrap_in (by omega) (by omega)).trans (by simp only [sumF]; omega)
        simp [st_spLO, hbs, St.lowers, St.lower, stLe, leEnv, leObs, obLe, injB, pinC, AV.leC, AV.leCs, PV.leC, PV.Le_v, St.get, St.obj, look, rho, isNew, keptC, renH, Mode.ok, Mode.isZ, PV.isVal, PV.isNilSl, List.all_nil, List.all_cons, List.any_nil, List.any_cons, List.map_nil, List.map_cons, e1, e2]
      · have : k = n := by omega
        subst this
        simp [leftOf, h]
theorem c_spLO (b : Int) (nn : Bool) (n : Nat) (g : Nat → Nat → PV) (hg : IntCells 1 n g) (hn : n ≤ 1048576000) : PRet Tryd.prog G0 27 [LG b nn n g] (AI (leftOf b n fun i => intOf (g i 0))) :=
  (c_spLO0 b nn n _ hn).args (LG_le hg)

def in_imLO (b : Int) (nn : Bool) (n : Nat) (f : Nat → Int) := (G0, res26, ([] : List (Nat × Ob)), [Item.ir ir26], start [.ag [AI b, IL nn n f]] [])
theorem ev_imLO : ∀ (b : Int) (nn : Bool) (n : Nat) (f : Nat → Int),
  ev G0 res26 [] (3000 : Nat)
      (Or.call [] (AB (ledgerValid b n fun (i : Nat) => intOf (PI (f i)))) [] (Or.nil.split Or.nil)) [Item.ir ir26]
      (start [AV.ag [AI b, IL nn n f]] []) =
    VC.call (19 : Nat)
      [AV.ag
          [AV.p true (PV.v (Value.int IntKind.i64 b)), AV.p false (PV.sl nn (1 : Nat) n fun (i x : Nat) => PI (f i))]]
      [] (AB (ledgerValid b n fun (i : Nat) => intOf (PI (f i)))) []
      (VC.split (!ledgerValid b n fun (i : Nat) => intOf (PI (f i)))
        (VC.doneP (AV.p true (PV.v (Value.int IntKind.i64 (-1 : Int)))))
        (VC.loop ir26_L1 [Item.bend (0 : Nat), Item.ir ir26_T2]
          {
            env :=
              [((0 : Nat),
                  AV.ag
                    [AV.p true (PV.v (Value.int IntKind.i64 b)),
                      AV.p false (PV.sl nn (1 : Nat) n fun (i x : Nat) => PI (f i))]),
                ((1 : Nat), AV.adr (1 : Nat) (0 : Nat)),
                ((2 : Nat), AV.p true (PV.v (Value.int IntKind.i64 (0 : Int)))),
                ((8 : Nat), AV.p true (PV.v (Value.bool !ledgerValid b n fun (i : Nat) => intOf (PI (f i))))),
                ((3 : Nat), AV.p true (PV.v (Value.int IntKind.i64 b))),
                ((12 : Nat), AV.p false (PV.sl nn (1 : Nat) n fun (i x : Nat) => PI (f i))),
                ((13 : Nat), AV.p true (PV.v (Value.int IntKind.i64 (↑n : Int)))),
                ((14 : Nat), AV.p true (PV.v (Value.int IntKind.i64 (0 : Int))))],
            H :=
              [((1 : Nat),
                  Ob.box
                    [AV.p true (PV.v (Value.int IntKind.i64 b)),
                      AV.p false (PV.sl nn (1 : Nat) n fun (i x : Nat) => PI (f i))])] })) := by
  intros; kernel_rfl
def st_imLO (b : Int) (nn : Bool) (n : Nat) (f : Nat → Int) (k : Nat) : St := ⟨[(1, .adr 1 0), (3, AI (b - sumF f k)), (12, IL nn n f), (13, AI n), (14, AI k)], [(1, .box [AI b, IL nn n f])]⟩
def r_imLO (b : Int) (nn : Bool) (n : Nat) (f : Nat → Int) (I : Nat → St → Prop) (k : Nat) := (G0, res26, ([] : List (Nat × Ob)), [Item.ir ir26_L1, .lend (I k), Item.bend 0, Item.ir ir26_T2], st_imLO b nn n f k)
theorem evr_imLO : ∀ (b : Int) (nn : Bool) (n : Nat) (f : Nat → Int) (I : Nat → St → Prop) (k : Nat),
  ev G0 res26 [] (3000 : Nat) (Or.nil.split Or.nil)
      [Item.ir ir26_L1, Item.lend (I k), Item.bend (0 : Nat), Item.ir ir26_T2] (st_imLO b nn n f k) =
    VC.split (decide ((↑k : Int) < (↑n : Int)))
      (VC.need ((0 : Int) ≤ (↑k : Int) ∧ (↑k : Int).toNat < n)
        (VC.lend (I k)
          {
            env :=
              [((1 : Nat), AV.adr (1 : Nat) (0 : Nat)),
                ((3 : Nat),
                  AV.p true (PV.v (Value.int IntKind.i64 (IntKind.i64.wrap (b - sumF f k - f (↑k : Int).toNat))))),
                ((12 : Nat), AV.p false (PV.sl nn (1 : Nat) n fun (i x : Nat) => PI (f i))),
                ((13 : Nat), AV.p true (PV.v (Value.int IntKind.i64 (↑n : Int)))),
                ((14 : Nat), AV.p true (PV.v (Value.int IntKind.i64 (IntKind.i64.wrap ((↑k : Int) + (1 : Int)))))),
                ((15 : Nat), AV.p true (PV.v (Value.bool (decide ((↑k : Int) < (↑n : Int)))))),
                ((5 : Nat), AV.p true (PV.v (Value.int IntKind.i64 (f (↑k : Int).toNat))))],
            H :=
              [((1 : Nat),
                  Ob.box
                    [AV.p true (PV.v (Value.int IntKind.i64 b)),
                      AV.p false (PV.sl nn (1 : Nat) n fun (i x : Nat) => PI (f i))])] }))
      (VC.doneP (AV.p true (PV.v (Value.int IntKind.i64 (b - sumF f k))))) := by
  intros; kernel_rfl
theorem c_imLO0 (b : Int) (nn : Bool) (n : Nat) (f : Nat → Int) (hn : n ≤ 1048576000) : PRet Tryd.prog G0 26 [.ag [AI b, IL nn n f]] (AI (leftOf b n f)) := by
  refine PRet.by chk26 (ev_imLO b nn n f) ?_
  simp only [VC.holds_split, VC.holds_need, VC.holds_doneP, VC.holds_done, VC.holds_either, VC.holds_call, VC.holds_callE, VC.holds_lend, VC.holds_stop, VC.holds_fail, decide_eq_true_eq, decide_eq_false_iff_not]
  refine ⟨c_imLV _ _ _ _ (int_cells _ _) hn, fun h => ?_, fun h => ?_⟩
  · simp only [Bool.not_eq_true', intOf] at h
    simp [leftOf, h]
  · simp only [Bool.not_eq_false', intOf] at h
    obtain ⟨hb, hn2, hall, hs⟩ := lv_all h
    refine loop_by (st_imLO b nn n f) (fun k => k ≤ n) (fun k => n - k) 0 [] [] [] (by omega) ?_ (evr_imLO b nn n f) fun k hk => ?_
    · simp [st_imLO, hbs, St.lowers, St.lower, stLe, leEnv, leObs, obLe, injB, pinC, AV.leC, AV.leCs, PV.leC, PV.Le_v, St.get, St.obj, look, rho, isNew, keptC, renH, Mode.ok, Mode.isZ, PV.isVal, PV.isNilSl, List.all_nil, List.all_cons, List.any_nil, List.any_cons, List.map_nil, List.map_cons, sumF]
    · have hsum := sumF_bnd (f := f) (lo := 1) (hi := 100000) (k := k) fun i hi => hall i (by omega)
      simp only [VC.holds_split, VC.holds_need, VC.holds_doneP, VC.holds_done, VC.holds_either, VC.holds_call, VC.holds_callE, VC.holds_lend, VC.holds_stop, VC.holds_fail, decide_eq_true_eq, decide_eq_false_iff_not]
      refine ⟨fun h1 => ⟨by omega, Again.mk (k + 1) [] [] [] (by omega) (by omega) ?_⟩, fun h1 => ?_⟩
      · have := hall k (by omega)
        have e1 : IntKind.i64.wrap ((k : Int) + 1) = ((k + 1 : Nat) : Int) := wrap_in (by omega) (by omega)
        have e2 : IntKind.i64.wrap (b - sumF f k - f k) = b - sumF f (k + 1) := (wrap_in (by omega) (by omega)).trans (by simp only [sumF]; omega)
        simp [st_imLO, hbs, St.lowers, St.lower, stLe, leEnv, leObs, obLe, injB, pinC, AV.leC, AV.leCs, PV.leC, PV.Le_v, St.get, St.obj, look, rho, isNew, keptC, renH, Mode.ok, Mode.isZ, PV.isVal, PV.isNilSl, List.all_nil, List.all_cons, List.any_nil, List.any_cons, List.map_nil, List.map_cons, e1, e2]
      · have : k = n := by omega
        subst this
        simp [leftOf, h]
theorem c_imLO (b : Int) (nn : Bool) (n : Nat) (g : Nat → Nat → PV) (hg : IntCells 1 n g) (hn : n ≤ 1048576000) : PRet Tryd.prog G0 26 [LG b nn n g] (AI (leftOf b n fun i => intOf (g i 0))) :=
  (c_imLO0 b nn n _ hn).args (LG_le hg)

end Go.Gw
