/- Ledgers: copied, compared, valid; with no condition. -/
import Derived.KernelRfl
import Derived.Test.YtbaafpfappfkjaaDoorInts2
namespace Go.Gw
open Go Go.Proofs
set_option linter.unusedSimpArgs false
set_option linter.unusedVariables false
set_option maxRecDepth 100000
def ir20_L1 : Ir :=
  (.seq
  (.seq
  (.reg [5, 6, 7, 8, 9, 10, 11, 12] [o 5 (.mov (tt 4)),
    o 6 (.fadr 1 (tt 1)),
    o 7 (.load false 1 (tt 6)),
    o 8 (.len (tt 7)),
    o 9 (.bin .lss (tt 5) (tt 8)),
    o 10 (.mov (tt 9)),
    og 11 10 true (.mov (tt 4)),
    og 12 10 true (.bin .leq (tt 11) (ci 20)),
    o 13 (.pick (tt 10) (tt 12) (cb false))])
  (.cond (tt 13)
   .skip
   (.exit 0)))
  (.seq
  (.block 1
   (.seq
   (.seq
   (.reg [16, 17, 18, 19, 20, 21] [o 16 (.fadr 1 (tt 1)),
     o 17 (.load false 1 (tt 16)),
     o 18 (.mov (tt 4)),
     o 19 (.idx 1 (tt 17) (tt 18)),
     o 20 (.load false 1 (tt 19)),
     o 21 (.call 44 [(tt 20), (ci 1), (ci 100000)]),
     o 22 (.un .not (tt 21))])
   (.cond (tt 22)
    (.seq
    (.reg [] [o 2 (.mov (cb false))])
    .ret)
    .skip))
   (.reg [23, 24, 25, 26, 27, 28, 29] [o 23 (.mov (tt 3)),
     o 24 (.fadr 1 (tt 1)),
     o 25 (.load false 1 (tt 24)),
     o 26 (.mov (tt 4)),
     o 27 (.idx 1 (tt 25) (tt 26)),
     o 28 (.load false 1 (tt 27)),
     o 29 (.bin .add (tt 23) (tt 28)),
     o 3 (.mov (tt 29))])))
  (.reg [14, 15] [o 14 (.mov (tt 4)),
    o 15 (.bin .add (tt 14) (ci 1)),
    o 4 (.mov (tt 15))])))
def ir20_T2 : Ir :=
  (.seq
  (.reg [30, 31, 32, 33, 34, 35, 36, 37, 38, 39, 40, 41, 42, 43, 44] [o 30 (.fadr 0 (tt 1)),
    o 31 (.load false 1 (tt 30)),
    o 32 (.call 44 [(tt 31), (ci 0), (ci 100000)]),
    o 33 (.mov (tt 32)),
    og 34 33 true (.fadr 1 (tt 1)),
    og 35 33 true (.load false 1 (tt 34)),
    og 36 33 true (.len (tt 35)),
    og 37 33 true (.bin .leq (tt 36) (ci 20)),
    o 38 (.pick (tt 33) (tt 37) (cb false)),
    o 39 (.mov (tt 38)),
    og 40 39 true (.mov (tt 3)),
    og 41 39 true (.fadr 0 (tt 1)),
    og 42 39 true (.load false 1 (tt 41)),
    og 43 39 true (.bin .leq (tt 40) (tt 42)),
    o 44 (.pick (tt 39) (tt 43) (cb false)),
    o 2 (.mov (tt 44))])
  .ret)
def ir20 : Ir :=
  (.seq
  (.reg [] [o 1 (.box 2 (tt 0)),
    o 2 (.mov (cb false))])
  (.seq
  (.reg [] [o 3 (.mov (ci 0))])
  (.seq
  (.seq
  (.reg [] [o 4 (.mov (ci 0))])
  (.block 0
   (.loop ir20_L1)))
  ir20_T2)))
def keep20 : List Nat := [0, 1, 2, 3, 4, 13, 22]
def res20 : List RI := [.tmp 2]
theorem chk20 : chk Tryd.prog 20 1 keep20 = some (ir20, res20) := by kernel_rfl
def ir19_L1 : Ir :=
  (.seq
  (.reg [] [o 22 (.bin .lss (tt 21) (tt 20))])
  (.seq
  (.cond (tt 22)
   .skip
   (.exit 0))
  (.seq
  (.block 1
   (.seq
   (.reg [23, 24] [o 23 (.idx 1 (tt 19) (tt 21)),
     o 24 (.load false 1 (tt 23)),
     o 5 (.mov (tt 24))])
   (.seq
   (.seq
   (.reg [25, 26, 27] [o 25 (.mov (tt 5)),
     o 26 (.mov (tt 3)),
     o 27 (.call 47 [(tt 25), (ci 1), (tt 26)]),
     o 28 (.un .not (tt 27))])
   (.cond (tt 28)
    (.seq
    (.reg [] [o 2 (.mov (cb false))])
    .ret)
    .skip))
   (.reg [29, 30, 31] [o 29 (.mov (tt 3)),
     o 30 (.mov (tt 5)),
     o 31 (.bin .sub (tt 29) (tt 30)),
     o 3 (.mov (tt 31))]))))
  (.reg [32] [o 32 (.bin .add (tt 21) (ci 1)),
    o 21 (.mov (tt 32))]))))
def ir19_T2 : Ir :=
  (.seq
  (.reg [] [o 2 (.mov (cb true))])
  .ret)
def ir19 : Ir :=
  (.seq
  (.reg [] [o 1 (.box 2 (tt 0)),
    o 2 (.mov (cb false))])
  (.seq
  (.seq
  (.reg [6, 7, 8, 9, 10, 11, 12, 13, 14] [o 6 (.fadr 0 (tt 1)),
    o 7 (.load false 1 (tt 6)),
    o 8 (.call 47 [(tt 7), (ci 0), (ci 100000)]),
    o 9 (.un .not (tt 8)),
    o 10 (.mov (tt 9)),
    og 11 10 false (.fadr 1 (tt 1)),
    og 12 10 false (.load false 1 (tt 11)),
    og 13 10 false (.len (tt 12)),
    og 14 10 false (.bin .gtr (tt 13) (ci 20)),
    o 15 (.pick (tt 10) (cb true) (tt 14))])
  (.cond (tt 15)
   (.seq
   (.reg [] [o 2 (.mov (cb false))])
   .ret)
   .skip))
  (.seq
  (.reg [16, 17] [o 16 (.fadr 0 (tt 1)),
    o 17 (.load false 1 (tt 16)),
    o 3 (.mov (tt 17))])
  (.seq
  (.seq
  (.reg [18] [o 18 (.fadr 1 (tt 1)),
    o 19 (.load false 1 (tt 18)),
    o 20 (.len (tt 19)),
    o 21 (.mov (ci 0))])
  (.block 0
   (.loop ir19_L1)))
  ir19_T2))))
def keep19 : List Nat := [0, 1, 2, 3, 5, 15, 19, 20, 21, 22, 28]
def res19 : List RI := [.tmp 2]
theorem chk19 : chk Tryd.prog 19 1 keep19 = some (ir19, res19) := by kernel_rfl


abbrev LG (b : Int) (nn : Bool) (n : Nat) (g : Nat → Nat → PV) : AV := .ag [AI b, SL nn 1 n g]

theorem int_cells (f : Nat → Int) (n : Nat) : IntCells 1 n (fun i _ => PI (f i)) := fun _ _ _ _ => rfl
/-! ### LedgerValid -/
def sumF (f : Nat → Int) : Nat → Int
  | 0 => 0
  | k + 1 => sumF f k + f k
def allB (p : Nat → Bool) : Nat → Bool
  | 0 => true
  | k + 1 => allB p k && p k
theorem allB_iff {p : Nat → Bool} : ∀ {k : Nat}, allB p k = true ↔ ∀ i, i < k → p i = true
  | 0 => by simp [allB]
  | k + 1 => by
    simp only [allB, Bool.and_eq_true, allB_iff (k := k)]
    constructor
    · intro ⟨h1, h2⟩ i hi
      by_cases h : i = k
      · subst h; exact h2
      · exact h1 i (by omega)
    · intro h; exact ⟨fun i hi => h i (by omega), h k (by omega)⟩
theorem allB_congr {p q : Nat → Bool} : ∀ {k : Nat}, (∀ i, i < k → p i = q i) → allB p k = allB q k
  | 0, _ => rfl
  | k + 1, h => by simp only [allB]; rw [allB_congr fun i hi => h i (by omega), h k (by omega)]
theorem sumF_congr {f g : Nat → Int} : ∀ {k : Nat}, (∀ i, i < k → f i = g i) → sumF f k = sumF g k
  | 0, _ => rfl
  | k + 1, h => by simp only [sumF]; rw [sumF_congr fun i hi => h i (by omega), h k (by omega)]
theorem sumF_bnd {f : Nat → Int} {lo hi : Int} : ∀ {k : Nat}, (∀ i, i < k → lo ≤ f i ∧ f i ≤ hi) → lo * k ≤ sumF f k ∧ sumF f k ≤ hi * k
  | 0, _ => by simp [sumF]
  | k + 1, h => by
    have := sumF_bnd (k := k) fun i hi => h i (by omega)
    have := h k (by omega)
    simp only [sumF, Int.natCast_add, Int.mul_add]
    omega
def ledgerValid (b : Int) (n : Nat) (f : Nat → Int) : Bool := inB b 0 100000 && decide (n ≤ 20) && allB (fun i => inB (f i) 1 100000) n && decide (sumF f n ≤ b)

def in_spLV (b : Int) (nn : Bool) (n : Nat) (f : Nat → Int) := (G0, res20, ([] : List (Nat × Ob)), [Item.ir ir20], start [.ag [AI b, IL nn n f]] [])
theorem ev_spLV : ∀ (b : Int) (nn : Bool) (n : Nat) (f : Nat → Int),
  ev G0 res20 [] (3000 : Nat) Or.nil [Item.ir ir20] (start [AV.ag [AI b, IL nn n f]] []) =
    VC.loop ir20_L1 [Item.bend (0 : Nat), Item.ir ir20_T2]
      {
        env :=
          [((0 : Nat),
              AV.ag
                [AV.p true (PV.v (Value.int IntKind.i64 b)),
                  AV.p false (PV.sl nn (1 : Nat) n fun (i x : Nat) => PI (f i))]),
            ((1 : Nat), AV.adr (1 : Nat) (0 : Nat)), ((2 : Nat), AV.p true (PV.v (Value.bool false))),
            ((3 : Nat), AV.p true (PV.v (Value.int IntKind.i64 (0 : Int)))),
            ((4 : Nat), AV.p true (PV.v (Value.int IntKind.i64 (0 : Int))))],
        H :=
          [((1 : Nat),
              Ob.box
                [AV.p true (PV.v (Value.int IntKind.i64 b)),
                  AV.p false (PV.sl nn (1 : Nat) n fun (i x : Nat) => PI (f i))])] } := by
  intros; kernel_rfl
def st_spLV (b : Int) (nn : Bool) (n : Nat) (f : Nat → Int) (k : Nat) : St := ⟨[(1, .adr 1 0), (3, AI (sumF f k)), (4, AI k)], [(1, .box [AI b, IL nn n f])]⟩
def r_spLV (b : Int) (nn : Bool) (n : Nat) (f : Nat → Int) (I : Nat → St → Prop) (k : Nat) := (G0, res20, ([] : List (Nat × Ob)), [Item.ir ir20_L1, .lend (I k), Item.bend 0, Item.ir ir20_T2], st_spLV b nn n f k)
theorem evr_spLV : ∀ (b : Int) (nn : Bool) (n : Nat) (f : Nat → Int) (I : Nat → St → Prop) (k : Nat),
  ev G0 res20 [] (3000 : Nat)
      (((Or.call [] (AB (inB (f (↑k : Int).toNat) (1 : Int) (100000 : Int))) [] (Or.nil.split Or.nil)).split
                (Or.call [] (AB (inB b (0 : Int) (100000 : Int))) []
                  ((Or.nil.lit.lit.lit.lit.split Or.nil.lit.lit.lit.lit).lit.lit.lit.lit.split
                    Or.nil.lit.lit.lit.lit.lit.lit.lit.lit.lit))).lit.lit.split
        (Or.call [] (AB (inB b (0 : Int) (100000 : Int))) []
                ((Or.nil.lit.lit.lit.lit.split Or.nil.lit.lit.lit.lit).lit.lit.lit.lit.split
                  Or.nil.lit.lit.lit.lit.lit.lit.lit.lit.lit)).lit.lit.lit)
      [Item.ir ir20_L1, Item.lend (I k), Item.bend (0 : Nat), Item.ir ir20_T2] (st_spLV b nn n f k) =
    VC.split (decide ((↑k : Int) < (↑n : Int)))
      (VC.split (decide ((↑k : Int) ≤ (20 : Int)))
        (VC.need ((0 : Int) ≤ (↑k : Int) ∧ (↑k : Int).toNat < n)
          (VC.call (44 : Nat)
            [AV.p true (PV.v (Value.int IntKind.i64 (f (↑k : Int).toNat))),
              AV.p true (PV.v (Value.int IntKind.i64 (1 : Int))),
              AV.p true (PV.v (Value.int IntKind.i64 (100000 : Int)))]
            [] (AB (inB (f (↑k : Int).toNat) (1 : Int) (100000 : Int))) []
            (VC.split (!inB (f (↑k : Int).toNat) (1 : Int) (100000 : Int))
              (VC.doneP (AV.p true (PV.v (Value.bool false))))
              (VC.need ((0 : Int) ≤ (↑k : Int) ∧ (↑k : Int).toNat < n)
                (VC.lend (I k)
                  {
                    env :=
                      [((1 : Nat), AV.adr (1 : Nat) (0 : Nat)),
                        ((3 : Nat),
                          AV.p true (PV.v (Value.int IntKind.i64 (IntKind.i64.wrap (sumF f k + f (↑k : Int).toNat))))),
                        ((4 : Nat),
                          AV.p true (PV.v (Value.int IntKind.i64 (IntKind.i64.wrap ((↑k : Int) + (1 : Int)))))),
                        ((13 : Nat), AV.p true (PV.v (Value.bool (decide ((↑k : Int) ≤ (20 : Int)))))),
                        ((22 : Nat), AV.p true (PV.v (Value.bool !inB (f (↑k : Int).toNat) (1 : Int) (100000 : Int))))],
                    H :=
                      [((1 : Nat),
                          Ob.box
                            [AV.p true (PV.v (Value.int IntKind.i64 b)),
                              AV.p false (PV.sl nn (1 : Nat) n fun (i x : Nat) => PI (f i))])] })))))
        (VC.call (44 : Nat)
          [AV.p true (PV.v (Value.int IntKind.i64 b)), AV.p true (PV.v (Value.int IntKind.i64 (0 : Int))),
            AV.p true (PV.v (Value.int IntKind.i64 (100000 : Int)))]
          [] (AB (inB b (0 : Int) (100000 : Int))) []
          (VC.split (inB b (0 : Int) (100000 : Int))
            (VC.split (decide ((↑n : Int) ≤ (20 : Int)))
              (VC.doneP (AV.p true (PV.v (Value.bool (decide (sumF f k ≤ b))))))
              (VC.doneP (AV.p true (PV.v (Value.bool false)))))
            (VC.doneP (AV.p true (PV.v (Value.bool false)))))))
      (VC.call (44 : Nat)
        [AV.p true (PV.v (Value.int IntKind.i64 b)), AV.p true (PV.v (Value.int IntKind.i64 (0 : Int))),
          AV.p true (PV.v (Value.int IntKind.i64 (100000 : Int)))]
        [] (AB (inB b (0 : Int) (100000 : Int))) []
        (VC.split (inB b (0 : Int) (100000 : Int))
          (VC.split (decide ((↑n : Int) ≤ (20 : Int)))
            (VC.doneP (AV.p true (PV.v (Value.bool (decide (sumF f k ≤ b))))))
            (VC.doneP (AV.p true (PV.v (Value.bool false)))))
          (VC.doneP (AV.p true (PV.v (Value.bool false)))))) := by
  intros; kernel_rfl
theorem c_spLV0 (b : Int) (nn : Bool) (n : Nat) (f : Nat → Int) (hn : n ≤ 1048576000) : PRet Tryd.prog G0 20 [.ag [AI b, IL nn n f]] (AB (ledgerValid b n f)) := by
  refine PRet.by chk20 (ev_spLV b nn n f) ?_
  refine loop_by (st_spLV b nn n f) (fun k => k ≤ n ∧ k ≤ 21 ∧ ∀ i, i < k → inB (f i) 1 100000 = true) (fun k => n - k) 0 [] [] [] (by simp) ?_ (evr_spLV b nn n f) fun k hk => ?_
  · simp [st_spLV, hbs, St.lowers, St.lower, stLe, leEnv, leObs, obLe, injB, pinC, AV.leC, AV.leCs, PV.leC, PV.Le_v, St.get, St.obj, look, rho, isNew, keptC, renH, Mode.ok, Mode.isZ, PV.isVal, PV.isNilSl, List.all_nil, List.all_cons, List.any_nil, List.any_cons, List.map_nil, List.map_cons, sumF]
  · obtain ⟨hk, hk2, hall⟩ := hk
    simp only [VC.holds_split, VC.holds_need, VC.holds_doneP, VC.holds_done, VC.holds_either, VC.holds_call, VC.holds_callE, VC.holds_lend, VC.holds_stop, VC.holds_fail, decide_eq_true_eq, decide_eq_false_iff_not]
    have hsum := sumF_bnd (f := f) (lo := 1) (hi := 100000) (k := k) fun i hi => inB_iff.1 (hall i hi)
    refine ⟨fun h1 => ⟨fun h2 => ⟨by omega, c_l1In _ _ _, fun h3 => ?_, fun h3 => ⟨by omega, Again.mk (k + 1) [] [] [] ⟨by omega, by omega, fun i hi => ?_⟩ (by omega) ?_⟩⟩, fun h2 => ⟨c_l1In _ _ _, fun h3 => ⟨fun h4 => by omega, fun h4 => ?_⟩, fun h3 => ?_⟩⟩, fun h1 => ⟨c_l1In _ _ _, fun h3 => ⟨fun h4 => ?_, fun h4 => ?_⟩, fun h3 => ?_⟩⟩
    · have : allB (fun i => inB (f i) 1 100000) n = false := by
        cases h : allB (fun i => inB (f i) 1 100000) n with
        | false => rfl
        | true =>
          have := allB_iff.1 h k (by omega)
          simp only [Int.toNat_natCast] at h3
          rw [this] at h3; cases h3
      simp [ledgerValid, this]
    · simp only [Int.toNat_natCast, Bool.not_eq_false'] at h3
      by_cases h : i = k
      · subst h; exact h3
      · exact hall i (by omega)
    · simp only [Int.toNat_natCast, Bool.not_eq_false'] at h3
      have := inB_iff.1 h3
      have e1 : IntKind.i64.wrap ((k : Int) + 1) = ((k + 1 : Nat) : Int) := wrap_in (by omega) (by omega)
      have e2 : IntKind.i64.wrap (sumF f k + f k) = sumF f (k + 1) := wrap_in (by omega) (by omega)
      simp [st_spLV, hbs, St.lowers, St.lower, stLe, leEnv, leObs, obLe, injB, pinC, AV.leC, AV.leCs, PV.leC, PV.Le_v, St.get, St.obj, look, rho, isNew, keptC, renH, Mode.ok, Mode.isZ, PV.isVal, PV.isNilSl, List.all_nil, List.all_cons, List.any_nil, List.any_cons, List.map_nil, List.map_cons, e1, e2]
    · have : ¬ n ≤ 20 := by omega
      simp [ledgerValid, this]
    · simp [ledgerValid, h3]
    · have : k = n := by omega
      subst this
      have : allB (fun i => inB (f i) 1 100000) k = true := allB_iff.2 hall
      simp [ledgerValid, h3, this, show k ≤ 20 by omega]
    · simp [ledgerValid, show ¬ n ≤ 20 by omega]
    · simp [ledgerValid, h3]
theorem ledgerValid_congr {b : Int} {n : Nat} {f g : Nat → Int} (h : ∀ i, i < n → f i = g i) : ledgerValid b n f = ledgerValid b n g := by
  unfold ledgerValid
  rw [sumF_congr h, allB_congr (p := fun i => inB (f i) 1 100000) (q := fun i => inB (g i) 1 100000) fun i hi => by simp only [h i hi]]
theorem LG_le {b : Int} {nn : Bool} {n : Nat} {g : Nat → Nat → PV} (hg : IntCells 1 n g) : AV.lePs [LG b nn n g] [.ag [AI b, IL nn n fun i => intOf (g i 0)]] := ⟨⟨AV.leP_p _ _, AV.leP_ints hg, trivial⟩, trivial⟩
theorem c_spLV (b : Int) (nn : Bool) (n : Nat) (g : Nat → Nat → PV) (hg : IntCells 1 n g) (hn : n ≤ 1048576000) : PRet Tryd.prog G0 20 [LG b nn n g] (AB (ledgerValid b n fun i => intOf (g i 0))) :=
  (c_spLV0 b nn n _ hn).args (LG_le hg)

def in_imLV (b : Int) (nn : Bool) (n : Nat) (f : Nat → Int) := (G0, res19, ([] : List (Nat × Ob)), [Item.ir ir19], start [.ag [AI b, IL nn n f]] [])
theorem ev_imLV : ∀ (b : Int) (nn : Bool) (n : Nat) (f : Nat → Int),
  ev G0 res19 [] (3000 : Nat)
      (Or.call [] (AB (inB b (0 : Int) (100000 : Int))) []
        (Or.nil.lit.lit.lit.lit.lit.split (Or.nil.split Or.nil).lit.lit.lit.lit))
      [Item.ir ir19] (start [AV.ag [AI b, IL nn n f]] []) =
    VC.call (47 : Nat)
      [AV.p true (PV.v (Value.int IntKind.i64 b)), AV.p true (PV.v (Value.int IntKind.i64 (0 : Int))),
        AV.p true (PV.v (Value.int IntKind.i64 (100000 : Int)))]
      [] (AB (inB b (0 : Int) (100000 : Int))) []
      (VC.split (!inB b (0 : Int) (100000 : Int)) (VC.doneP (AV.p true (PV.v (Value.bool false))))
        (VC.split (decide ((20 : Int) < (↑n : Int))) (VC.doneP (AV.p true (PV.v (Value.bool false))))
          (VC.loop ir19_L1 [Item.bend (0 : Nat), Item.ir ir19_T2]
            {
              env :=
                [((0 : Nat),
                    AV.ag
                      [AV.p true (PV.v (Value.int IntKind.i64 b)),
                        AV.p false (PV.sl nn (1 : Nat) n fun (i x : Nat) => PI (f i))]),
                  ((1 : Nat), AV.adr (1 : Nat) (0 : Nat)), ((2 : Nat), AV.p true (PV.v (Value.bool false))),
                  ((15 : Nat), AV.p true (PV.v (Value.bool (decide ((20 : Int) < (↑n : Int)))))),
                  ((3 : Nat), AV.p true (PV.v (Value.int IntKind.i64 b))),
                  ((19 : Nat), AV.p false (PV.sl nn (1 : Nat) n fun (i x : Nat) => PI (f i))),
                  ((20 : Nat), AV.p true (PV.v (Value.int IntKind.i64 (↑n : Int)))),
                  ((21 : Nat), AV.p true (PV.v (Value.int IntKind.i64 (0 : Int))))],
              H :=
                [((1 : Nat),
                    Ob.box
                      [AV.p true (PV.v (Value.int IntKind.i64 b)),
                        AV.p false (PV.sl nn (1 : Nat) n fun (i x : Nat) => PI (f i))])] }))) := by
  intros; kernel_rfl
def st_imLV (b : Int) (nn : Bool) (n : Nat) (f : Nat → Int) (k : Nat) : St := ⟨[(1, .adr 1 0), (3, AI (b - sumF f k)), (19, IL nn n f), (20, AI n), (21, AI k)], [(1, .box [AI b, IL nn n f])]⟩
def r_imLV (b : Int) (nn : Bool) (n : Nat) (f : Nat → Int) (I : Nat → St → Prop) (k : Nat) := (G0, res19, ([] : List (Nat × Ob)), [Item.ir ir19_L1, .lend (I k), Item.bend 0, Item.ir ir19_T2], st_imLV b nn n f k)
theorem evr_imLV : ∀ (b : Int) (nn : Bool) (n : Nat) (f : Nat → Int) (I : Nat → St → Prop) (k : Nat),
  ev G0 res19 [] (3000 : Nat)
      ((Or.call [] (AB (inB (f (↑k : Int).toNat) (1 : Int) (b - sumF f k))) [] (Or.nil.split Or.nil)).split Or.nil)
      [Item.ir ir19_L1, Item.lend (I k), Item.bend (0 : Nat), Item.ir ir19_T2] (st_imLV b nn n f k) =
    VC.split (decide ((↑k : Int) < (↑n : Int)))
      (VC.need ((0 : Int) ≤ (↑k : Int) ∧ (↑k : Int).toNat < n)
        (VC.call (47 : Nat)
          [AV.p true (PV.v (Value.int IntKind.i64 (f (↑k : Int).toNat))),
            AV.p true (PV.v (Value.int IntKind.i64 (1 : Int))), AV.p true (PV.v (Value.int IntKind.i64 (b - sumF f k)))]
          [] (AB (inB (f (↑k : Int).toNat) (1 : Int) (b - sumF f k))) []
          (VC.split (!inB (f (↑k : Int).toNat) (1 : Int) (b - sumF f k))
            (VC.doneP (AV.p true (PV.v (Value.bool false))))
            (VC.lend (I k)
              {
                env :=
                  [((1 : Nat), AV.adr (1 : Nat) (0 : Nat)),
                    ((3 : Nat),
                      AV.p true (PV.v (Value.int IntKind.i64 (IntKind.i64.wrap (b - sumF f k - f (↑k : Int).toNat))))),
                    ((19 : Nat), AV.p false (PV.sl nn (1 : Nat) n fun (i x : Nat) => PI (f i))),
                    ((20 : Nat), AV.p true (PV.v (Value.int IntKind.i64 (↑n : Int)))),
                    ((21 : Nat), AV.p true (PV.v (Value.int IntKind.i64 (IntKind.i64.wrap ((↑k : Int) + (1 : Int)))))),
                    ((22 : Nat), AV.p true (PV.v (Value.bool (decide ((↑k : Int) < (↑n : Int)))))),
                    ((5 : Nat), AV.p true (PV.v (Value.int IntKind.i64 (f (↑k : Int).toNat)))),
                    ((28 : Nat), AV.p true (PV.v (Value.bool !inB (f (↑k : Int).toNat) (1 : Int) (b - sumF f k))))],
                H :=
                  [((1 : Nat),
                      Ob.box
                        [AV.p true (PV.v (Value.int IntKind.i64 b)),
                          AV.p false (PV.sl nn (1 : Nat) n fun (i x : Nat) => PI (f i))])] }))))
      (VC.doneP (AV.p true (PV.v (Value.bool true)))) := by
  intros; kernel_rfl
theorem lv_sum {b : Int} {n : Nat} {f : Nat → Int} (h : ledgerValid b n f = true) : ∀ k, k ≤ n → sumF f k ≤ b := by
  simp only [ledgerValid, Bool.and_eq_true, decide_eq_true_eq] at h
  obtain ⟨⟨_, h2⟩, h3⟩ := h
  have h2 := allB_iff.1 h2
  have : ∀ d, d ≤ n → sumF f (n - d) ≤ b := by
    intro d
    induction d with
    | zero => intro _; exact h3
    | succ d ih =>
      intro hd
      have h4 := ih (by omega)
      have h5 := inB_iff.1 (h2 (n - (d + 1)) (by omega))
      have e : n - d = (n - (d + 1)) + 1 := by omega
      rw [e, sumF] at h4
      omega
  intro k hk
  have := this (n - k) (by omega)
  rwa [show n - (n - k) = k by omega] at this
theorem c_imLV0 (b : Int) (nn : Bool) (n : Nat) (f : Nat → Int) (hn : n ≤ 1048576000) : PRet Tryd.prog G0 19 [.ag [AI b, IL nn n f]] (AB (ledgerValid b n f)) := by
  refine PRet.by chk19 (ev_imLV b nn n f) ?_
  simp only [VC.holds_split, VC.holds_need, VC.holds_doneP, VC.holds_done, VC.holds_either, VC.holds_call, VC.holds_callE, VC.holds_lend, VC.holds_stop, VC.holds_fail, decide_eq_true_eq, decide_eq_false_iff_not]
  refine ⟨c_in _ _ _, fun h1 => ?_, fun h1 => ⟨fun h2 => ?_, fun h2 => ?_⟩⟩
  · simp only [Bool.not_eq_true'] at h1
    simp [ledgerValid, h1]
  · simp [ledgerValid, show ¬ n ≤ 20 by omega]
  · simp only [Bool.not_eq_false'] at h1
    have hb := inB_iff.1 h1
    refine loop_by (st_imLV b nn n f) (fun k => k ≤ n ∧ (∀ i, i < k → inB (f i) 1 100000 = true) ∧ sumF f k ≤ b) (fun k => n - k) 0 [] [] [] (by simp [sumF]; omega) ?_ (evr_imLV b nn n f) fun k hk => ?_
    · simp [st_imLV, hbs, St.lowers, St.lower, stLe, leEnv, leObs, obLe, injB, pinC, AV.leC, AV.leCs, PV.leC, PV.Le_v, St.get, St.obj, look, rho, isNew, keptC, renH, Mode.ok, Mode.isZ, PV.isVal, PV.isNilSl, List.all_nil, List.all_cons, List.any_nil, List.any_cons, List.map_nil, List.map_cons, sumF]
    · obtain ⟨hk, hall, hs⟩ := hk
      simp only [VC.holds_split, VC.holds_need, VC.holds_doneP, VC.holds_done, VC.holds_either, VC.holds_call, VC.holds_callE, VC.holds_lend, VC.holds_stop, VC.holds_fail, decide_eq_true_eq, decide_eq_false_iff_not]
      have hsum := sumF_bnd (f := f) (lo := 1) (hi := 100000) (k := k) fun i hi => inB_iff.1 (hall i hi)
      simp only [Int.toNat_natCast]
      refine ⟨fun h3 => ⟨by omega, c_in _ _ _, fun h4 => ?_, fun h4 => Again.mk (k + 1) [] [] [] ⟨by omega, fun i hi => ?_, ?_⟩ (by omega) ?_⟩, fun h3 => ?_⟩
      · cases h : ledgerValid b n f with
        | false => simp
        | true =>
          have h5 := lv_sum h (k + 1) (by omega)
          simp only [ledgerValid, Bool.and_eq_true, decide_eq_true_eq] at h
          have h6 := inB_iff.1 (allB_iff.1 h.1.2 k (by omega))
          simp only [sumF] at h5
          have : inB (f k) 1 (b - sumF f k) = true := inB_iff.2 ⟨by omega, by omega⟩
          rw [this] at h4
          cases h4
      · simp only [Bool.not_eq_false'] at h4
        have := inB_iff.1 h4
        by_cases h : i = k
        · subst h; exact inB_iff.2 ⟨by omega, by omega⟩
        · exact hall i (by omega)
      · simp only [Bool.not_eq_false'] at h4
        have := inB_iff.1 h4
        simp only [sumF]; omega
      · simp only [Bool.not_eq_false'] at h4
        have := inB_iff.1 h4
        have e1 : IntKind.i64.wrap ((k : Int) + 1) = ((k + 1 : Nat) : Int) := wrap_in (by omega) (by omega)
        have e2 : IntKind.i64.wrap (b - sumF f k - f k) = b - sumF f (k + 1) := (wrap_in (by omega) (by omega)).trans (by simp only [sumF]; omega)
        simp [st_imLV, hbs, St.lowers, St.lower, stLe, leEnv, leObs, obLe, injB, pinC, AV.leC, AV.leCs, PV.leC, PV.Le_v, St.get, St.obj, look, rho, isNew, keptC, renH, Mode.ok, Mode.isZ, PV.isVal, PV.isNilSl, List.all_nil, List.all_cons, List.any_nil, List.any_cons, List.map_nil, List.map_cons, e1, e2]
      · have : k = n := by omega
        subst this
        have : allB (fun i => inB (f i) 1 100000) k = true := allB_iff.2 hall
        simp [ledgerValid, h1, this, hs, show k ≤ 20 by omega]
theorem c_imLV (b : Int) (nn : Bool) (n : Nat) (g : Nat → Nat → PV) (hg : IntCells 1 n g) (hn : n ≤ 1048576000) : PRet Tryd.prog G0 19 [LG b nn n g] (AB (ledgerValid b n fun i => intOf (g i 0))) :=
  (c_imLV0 b nn n _ hn).args (LG_le hg)

end Go.Gw
