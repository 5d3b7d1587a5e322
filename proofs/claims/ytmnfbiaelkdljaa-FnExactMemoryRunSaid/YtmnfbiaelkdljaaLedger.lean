/- Ledgers: copied, compared, valid; with no condition. -/
import Derived.KernelRfl
import Derived.Test.YtmnfbiaelkdljaaInts2
namespace Go.Gw
open Go Go.Proofs
set_option linter.unusedSimpArgs false
set_option linter.unusedVariables false
set_option maxRecDepth 100000
def ir11 : Ir :=
  (.seq
  (.reg [] [o 2 (.box 2 (tt 0)),
    o 4 (.mov (ci 0))])
  (.seq
  (.reg [5, 6, 7, 8] [o 5 (.fadr 1 (tt 2)),
    o 6 (.load false 1 (tt 5)),
    o 7 (.mov (tt 1)),
    o 8 (.call 45 [(tt 6), (tt 7)]),
    o 1 (.mov (tt 8))])
  (.seq
  (.seq
  (.reg [9] [o 9 (.mov (tt 1)),
    o 10 (.bin .lss (tt 9) (ci 0))])
  (.cond (tt 10)
   (.seq
   (.reg [] [o 4 (.mov (ci (-1)))])
   .ret)
   .skip))
  (.seq
  (.reg [11] [o 11 (.mov (tt 1)),
    o 4 (.mov (tt 11))])
  .ret))))
def keep11 : List Nat := [0, 1, 2, 4, 10]
def res11 : List RI := [.tmp 4]
theorem chk11 : chk Try.prog 11 2 keep11 = some (ir11, res11) := by kernel_rfl
def ir13 : Ir :=
  (.seq
  (.reg [] [o 1 (.box 2 (tt 0)),
    o 2 (.alloc [(.int .i64 0), (.slice none 0 0)])])
  (.seq
  (.reg [] [o 3 (.alloc [(.int .i64 0), (.slice none 0 0)])])
  (.seq
  (.reg [4, 5, 6] [o 4 (.fadr 0 (tt 1)),
    o 5 (.load false 1 (tt 4)),
    o 6 (.fadr 0 (tt 3)),
    on (.store 1 (tt 6) (tt 5))])
  (.seq
  (.reg [7, 8, 9, 10] [o 7 (.fadr 1 (tt 1)),
    o 8 (.load false 1 (tt 7)),
    o 9 (.call 17 [(tt 8)]),
    o 10 (.fadr 1 (tt 3)),
    on (.store 1 (tt 10) (tt 9))])
  (.seq
  (.reg [11] [o 11 (.load true 2 (tt 3)),
    on (.store 2 (tt 2) (tt 11))])
  .ret)))))
def keep13 : List Nat := [0, 1, 2, 3]
def res13 : List RI := [.cell true 2 2]
theorem chk13 : chk Try.prog 13 1 keep13 = some (ir13, res13) := by kernel_rfl
def ir15 : Ir :=
  (.seq
  (.reg [] [o 2 (.box 2 (tt 0)),
    o 3 (.box 2 (tt 1)),
    o 4 (.mov (cb false))])
  (.seq
  (.seq
  (.reg [5, 6, 7, 8] [o 5 (.fadr 0 (tt 2)),
    o 6 (.load false 1 (tt 5)),
    o 7 (.fadr 0 (tt 3)),
    o 8 (.load false 1 (tt 7)),
    o 9 (.bin .neq (tt 6) (tt 8))])
  (.cond (tt 9)
   (.seq
   (.reg [] [o 4 (.mov (cb false))])
   .ret)
   .skip))
  (.seq
  (.seq
  (.reg [10, 11, 12, 13, 14] [o 10 (.fadr 1 (tt 2)),
    o 11 (.load false 1 (tt 10)),
    o 12 (.fadr 1 (tt 3)),
    o 13 (.load false 1 (tt 12)),
    o 14 (.call 19 [(tt 11), (tt 13)]),
    o 15 (.un .not (tt 14))])
  (.cond (tt 15)
   (.seq
   (.reg [] [o 4 (.mov (cb false))])
   .ret)
   .skip))
  (.seq
  (.reg [] [o 4 (.mov (cb true))])
  .ret))))
def keep15 : List Nat := [0, 1, 2, 3, 4, 9, 15]
def res15 : List RI := [.tmp 4]
theorem chk15 : chk Try.prog 15 2 keep15 = some (ir15, res15) := by kernel_rfl
def ir12_L1 : Ir :=
  (.seq
  (.seq
  (.reg [5, 6, 7, 8, 9, 10, 11, 12] [o 5 (.mov (tt 4)),
    o 6 (.fadr 1 (tt 1)),
    o 7 (.load false 1 (tt 6)),
    o 8 (.len (tt 7)),
    o 9 (.bin .lss (tt 5) (tt 8)),
    o 10 (.mov (tt 9)),
    og 11 10 true (.mov (tt 4)),
    og 12 10 true (.bin .leq (tt 11) (ci 20)),
    o 13 (.pick (tt 10) (tt 12) (cb false))])
  (.cond (tt 13)
   .skip
   (.exit 0)))
  (.seq
  (.block 1
   (.seq
   (.seq
   (.reg [16, 17, 18, 19, 20, 21] [o 16 (.fadr 1 (tt 1)),
     o 17 (.load false 1 (tt 16)),
     o 18 (.mov (tt 4)),
     o 19 (.idx 1 (tt 17) (tt 18)),
     o 20 (.load false 1 (tt 19)),
     o 21 (.call 46 [(tt 20), (ci 1), (ci 100000)]),
     o 22 (.un .not (tt 21))])
   (.cond (tt 22)
    (.seq
    (.reg [] [o 2 (.mov (cb false))])
    .ret)
    .skip))
   (.reg [23, 24, 25, 26, 27, 28, 29] [o 23 (.mov (tt 3)),
     o 24 (.fadr 1 (tt 1)),
     o 25 (.load false 1 (tt 24)),
     o 26 (.mov (tt 4)),
     o 27 (.idx 1 (tt 25) (tt 26)),
     o 28 (.load false 1 (tt 27)),
     o 29 (.bin .add (tt 23) (tt 28)),
     o 3 (.mov (tt 29))])))
  (.reg [14, 15] [o 14 (.mov (tt 4)),
    o 15 (.bin .add (tt 14) (ci 1)),
    o 4 (.mov (tt 15))])))
def ir12_T2 : Ir :=
  (.seq
  (.reg [30, 31, 32, 33, 34, 35, 36, 37, 38, 39, 40, 41, 42, 43, 44] [o 30 (.fadr 0 (tt 1)),
    o 31 (.load false 1 (tt 30)),
    o 32 (.call 46 [(tt 31), (ci 0), (ci 100000)]),
    o 33 (.mov (tt 32)),
    og 34 33 true (.fadr 1 (tt 1)),
    og 35 33 true (.load false 1 (tt 34)),
    og 36 33 true (.len (tt 35)),
    og 37 33 true (.bin .leq (tt 36) (ci 20)),
    o 38 (.pick (tt 33) (tt 37) (cb false)),
    o 39 (.mov (tt 38)),
    og 40 39 true (.mov (tt 3)),
    og 41 39 true (.fadr 0 (tt 1)),
    og 42 39 true (.load false 1 (tt 41)),
    og 43 39 true (.bin .leq (tt 40) (tt 42)),
    o 44 (.pick (tt 39) (tt 43) (cb false)),
    o 2 (.mov (tt 44))])
  .ret)
def ir12 : Ir :=
  (.seq
  (.reg [] [o 1 (.box 2 (tt 0)),
    o 2 (.mov (cb false))])
  (.seq
  (.reg [] [o 3 (.mov (ci 0))])
  (.seq
  (.seq
  (.reg [] [o 4 (.mov (ci 0))])
  (.block 0
   (.loop ir12_L1)))
  ir12_T2)))
def keep12 : List Nat := [0, 1, 2, 3, 4, 13, 22]
def res12 : List RI := [.tmp 2]
theorem chk12 : chk Try.prog 12 1 keep12 = some (ir12, res12) := by kernel_rfl
def ir14_L1 : Ir :=
  (.seq
  (.reg [] [o 22 (.bin .lss (tt 21) (tt 20))])
  (.seq
  (.cond (tt 22)
   .skip
   (.exit 0))
  (.seq
  (.block 1
   (.seq
   (.reg [23, 24] [o 23 (.idx 1 (tt 19) (tt 21)),
     o 24 (.load false 1 (tt 23)),
     o 5 (.mov (tt 24))])
   (.seq
   (.seq
   (.reg [25, 26, 27] [o 25 (.mov (tt 5)),
     o 26 (.mov (tt 3)),
     o 27 (.call 47 [(tt 25), (ci 1), (tt 26)]),
     o 28 (.un .not (tt 27))])
   (.cond (tt 28)
    (.seq
    (.reg [] [o 2 (.mov (cb false))])
    .ret)
    .skip))
   (.reg [29, 30, 31] [o 29 (.mov (tt 3)),
     o 30 (.mov (tt 5)),
     o 31 (.bin .sub (tt 29) (tt 30)),
     o 3 (.mov (tt 31))]))))
  (.reg [32] [o 32 (.bin .add (tt 21) (ci 1)),
    o 21 (.mov (tt 32))]))))
def ir14_T2 : Ir :=
  (.seq
  (.reg [] [o 2 (.mov (cb true))])
  .ret)
def ir14 : Ir :=
  (.seq
  (.reg [] [o 1 (.box 2 (tt 0)),
    o 2 (.mov (cb false))])
  (.seq
  (.seq
  (.reg [6, 7, 8, 9, 10, 11, 12, 13, 14] [o 6 (.fadr 0 (tt 1)),
    o 7 (.load false 1 (tt 6)),
    o 8 (.call 47 [(tt 7), (ci 0), (ci 100000)]),
    o 9 (.un .not (tt 8)),
    o 10 (.mov (tt 9)),
    og 11 10 false (.fadr 1 (tt 1)),
    og 12 10 false (.load false 1 (tt 11)),
    og 13 10 false (.len (tt 12)),
    og 14 10 false (.bin .gtr (tt 13) (ci 20)),
    o 15 (.pick (tt 10) (cb true) (tt 14))])
  (.cond (tt 15)
   (.seq
   (.reg [] [o 2 (.mov (cb false))])
   .ret)
   .skip))
  (.seq
  (.reg [16, 17] [o 16 (.fadr 0 (tt 1)),
    o 17 (.load false 1 (tt 16)),
    o 3 (.mov (tt 17))])
  (.seq
  (.seq
  (.reg [18] [o 18 (.fadr 1 (tt 1)),
    o 19 (.load false 1 (tt 18)),
    o 20 (.len (tt 19)),
    o 21 (.mov (ci 0))])
  (.block 0
   (.loop ir14_L1)))
  ir14_T2))))
def keep14 : List Nat := [0, 1, 2, 3, 5, 15, 19, 20, 21, 22, 28]
def res14 : List RI := [.tmp 2]
theorem chk14 : chk Try.prog 14 1 keep14 = some (ir14, res14) := by kernel_rfl
def ir3 : Ir :=
  (.seq
  (.reg [] [o 1 (.box 2 (tt 0)),
    o 2 (.mov (cb false))])
  (.seq
  (.reg [] [o 3 (.mov (ci 1048576))])
  (.seq
  (.reg [7, 8, 9] [o 7 (.load true 2 (tt 1)),
    o 8 (.mov (tt 3)),
    o 9 (.call 11 [(tt 7), (tt 8)]),
    o 3 (.mov (tt 9))])
  (.seq
  (.seq
  (.reg [10] [o 10 (.mov (tt 3)),
    o 11 (.bin .lss (tt 10) (ci 0))])
  (.cond (tt 11)
   (.seq
   (.reg [] [o 2 (.mov (cb true))])
   .ret)
   .skip))
  (.seq
  (.reg [12, 13, 14] [o 12 (.load true 2 (tt 1)),
    o 13 (.call 13 [(tt 12)]),
    o 14 (.call 12 [(tt 13)]),
    o 4 (.mov (tt 14))])
  (.seq
  (.reg [15, 16] [o 15 (.load true 2 (tt 1)),
    o 16 (.call 13 [(tt 15)]),
    o 5 (.alloc [(.int .i64 0), (.slice none 0 0)]),
    on (.store 2 (tt 5) (tt 16))])
  (.seq
  (.reg [17, 18] [o 17 (.load true 2 (tt 5)),
    o 18 (.call 14 [(tt 17)]),
    o 6 (.mov (tt 18))])
  (.seq
  (.seq
  (.reg [19, 20] [o 19 (.mov (tt 6)),
    o 20 (.mov (tt 4)),
    o 21 (.binB .neq (tt 19) (tt 20))])
  (.cond (tt 21)
   (.seq
   (.reg [] [o 2 (.mov (cb false))])
   .ret)
   .skip))
  (.seq
  (.seq
  (.dreg [22, 23, 24, 25] [0, 0, 2, 7, 15] [(0, 1022), (0, 2022), (1, 1023), (1, 2023), (2, 1024), (2, 2024), (2, 3024), (2, 4024), (2, 5024), (2, 6024), (2, 7024), (2, 8024), (3, 1025), (3, 2025), (3, 3025), (3, 4025), (3, 5025), (3, 6025), (3, 7025), (3, 8025)] [o 22 (.load true 2 (tt 5)),
    o 23 (.load true 2 (tt 1)),
    o 24 (.call 13 [(tt 23)]),
    o 25 (.call 15 [(tt 22), (tt 24)]),
    o 26 (.un .not (tt 25))])
  (.cond (tt 26)
   (.seq
   (.reg [] [o 2 (.mov (cb false))])
   .ret)
   .skip))
  (.seq
  (.reg [] [o 2 (.mov (cb true))])
  .ret))))))))))
def keep3 : List Nat := [0, 1, 2, 3, 4, 5, 6, 11, 21, 26]
def res3 : List RI := [.tmp 2]
theorem chk3 : chk Try.prog 3 1 keep3 = some (ir3, res3) := by kernel_rfl


abbrev LG (b : Int) (nn : Bool) (n : Nat) (g : Nat → Nat → PV) : AV := .ag [AI b, SL nn 1 n g]

/-! ### szLedger -/
def in_szLedger (b : Int) (nn : Bool) (n : Nat) (g : Nat → Nat → PV) (l : Int) := (G0, res11, ([] : List (Nat × Ob)), [Item.ir ir11], start [LG b nn n g, AI l] [])
theorem ev_szLedger : ∀ (b : Int) (nn : Bool) (n : Nat) (g : Nat → Nat → PV) (l : Int), ev G0 res11 [] (3000 : Nat) (Or.call [] (AI (szN n l)) [] (Or.nil.split Or.nil)) [Item.ir ir11] (start [LG b nn n g, AI l] []) = VC.call (45 : Nat) [AV.p false (PV.sl nn (1 : Nat) n g), AV.p true (PV.v (Value.int IntKind.i64 l))] [] (AI (szN n l)) [] (VC.split (decide (szN n l < (0 : Int))) (VC.doneP (AV.p true (PV.v (Value.int IntKind.i64 (-1 : Int))))) (VC.doneP (AV.p true (PV.v (Value.int IntKind.i64 (szN n l)))))) := by intros; kernel_rfl
theorem c_szLedger (b : Int) (nn : Bool) (n : Nat) (g : Nat → Nat → PV) (l : Int) : PRet Try.prog G0 11 [LG b nn n g, AI l] (AI (szN n l)) := by
  refine PRet.by chk11 (ev_szLedger b nn n g l) ?_
  simp only [VC.holds_split, VC.holds_need, VC.holds_doneP, VC.holds_done, VC.holds_either, VC.holds_call, VC.holds_callE, VC.holds_lend, VC.holds_stop, VC.holds_fail, decide_eq_true_eq, decide_eq_false_iff_not]
  refine ⟨c_szIntS _ _ _ _, fun h => ?_, fun h => ?_⟩
  · have : szN n l = -1 := by
      unfold szN at h ⊢
      split
      · rfl
      · rename_i h2; rw [if_neg h2] at h; exact (h2 h).elim
    simp [this]
  · simp

/-! ### toLedger, eqLedger -/
def in_toLedger (b : Int) (nn : Bool) (n : Nat) (g : Nat → Nat → PV) := (G0, res13, ([] : List (Nat × Ob)), [Item.ir ir13], start [LG b nn n g] [])
theorem ev_toLedger : ∀ (b : Int) (nn : Bool) (n : Nat) (g : Nat → Nat → PV), ev G0 res13 [] (3000 : Nat) (Or.call [] (AV.own (0 : Nat)) [((0 : Nat), Ob.row Mode.u true (1 : Nat) n (fun (i x : Nat) => PI (intOf (g i (0 : Nat)))) [])] Or.nil) [Item.ir ir13] (start [LG b nn n g] []) = VC.call (17 : Nat) [AV.p false (PV.sl nn (1 : Nat) n g)] [] (AV.own (0 : Nat)) [((0 : Nat), Ob.row Mode.u true (1 : Nat) n (fun (i x : Nat) => PI (intOf (g i (0 : Nat)))) [])] (VC.done (St.mk [((0 : Nat), AV.ag [AV.p true (PV.v (Value.int IntKind.i64 b)), AV.p false (PV.sl nn (1 : Nat) n g)]), ((1 : Nat), AV.adr (1 : Nat) (0 : Nat)), ((2 : Nat), AV.adr (2 : Nat) (0 : Nat)), ((3 : Nat), AV.adr (3 : Nat) (0 : Nat))] [((1 : Nat), Ob.box [AV.p true (PV.v (Value.int IntKind.i64 b)), AV.p false (PV.sl nn (1 : Nat) n g)]), ((2 : Nat), Ob.box [AV.p true (PV.v (Value.int IntKind.i64 b)), AV.own (1009 : Nat)]), ((3 : Nat), Ob.box [AV.p true (PV.v (Value.int IntKind.i64 b)), AV.own (1009 : Nat)]), ((1009 : Nat), Ob.row Mode.u true (1 : Nat) n (fun (i x : Nat) => PI (intOf (g i (0 : Nat)))) [])])) := by intros; kernel_rfl
theorem c_toLedger (b : Int) (nn : Bool) (n : Nat) (g : Nat → Nat → PV) (hg : IntCells 1 n g) (hn : n ≤ 1048576) :
    PObj Try.prog G0 13 [LG b nn n g] [] (.ag [AI b, .own 0]) [(0, .row .u true 1 n (fun i _ => PI (intOf (g i 0))) [])] := by
  refine PObj.by chk13 rfl (ev_toLedger b nn n g) ?_
  simp only [VC.holds_split, VC.holds_need, VC.holds_doneP, VC.holds_done, VC.holds_either, VC.holds_call, VC.holds_callE, VC.holds_lend, VC.holds_stop, VC.holds_fail, decide_eq_true_eq, decide_eq_false_iff_not]
  refine ⟨c_toIntS nn n g hg hn, ResOk.mk [] [(0, 1009)] [] _ _ ?_ ⟨rfl, rfl⟩⟩
  simp [doneC, resOf, resAV, tup, pinR, hbs, St.lowers, St.lower, stLe, leEnv, leObs, obLe, injB, pinC, AV.leC, AV.leCs, PV.leC, PV.Le_v, St.get, St.obj, look, rho, isNew, keptC, renH, Mode.ok, Mode.isZ, PV.isVal, PV.isNilSl, List.all_nil, List.all_cons, List.any_nil, List.any_cons, List.map_nil, List.map_cons, res13]
def in_eqLedger (b : Int) (nn nn' : Bool) (n : Nat) (g g' : Nat → Nat → PV) := (G0, res15, ([] : List (Nat × Ob)), [Item.ir ir15], start [LG b nn n g, LG b nn' n g'] [])
theorem ev_eqLedger : ∀ (b : Int) (nn nn' : Bool) (n : Nat) (g g' : Nat → Nat → PV), ev G0 res15 [] (3000 : Nat) (Or.nil.split (Or.call [] (AB true) [] Or.nil.lit)) [Item.ir ir15] (start [LG b nn n g, LG b nn' n g'] []) = VC.split (b != b) (VC.doneP (AV.p true (PV.v (Value.bool false)))) (VC.call (19 : Nat) [AV.p false (PV.sl nn (1 : Nat) n g), AV.p false (PV.sl nn' (1 : Nat) n g')] [] (AB true) [] (VC.doneP (AV.p true (PV.v (Value.bool true))))) := by intros; kernel_rfl
theorem c_eqLedger (b : Int) (nn nn' : Bool) (n : Nat) (g g' : Nat → Nat → PV) (hg : IntCells 1 n g) (hg' : ∀ i, i < n → g' i 0 = g i 0) (hn : n ≤ 1048576000) : PRet Try.prog G0 15 [LG b nn n g, LG b nn' n g'] (AB true) := by
  refine PRet.by chk15 (ev_eqLedger b nn nn' n g g') ?_
  simp only [VC.holds_split, VC.holds_need, VC.holds_doneP, VC.holds_done, VC.holds_either, VC.holds_call, VC.holds_callE, VC.holds_lend, VC.holds_stop, VC.holds_fail, decide_eq_true_eq, decide_eq_false_iff_not]
  refine ⟨fun h => by simp at h, fun h => ⟨c_eqIntS nn nn' n g g' hg hg' hn, ?_⟩⟩
  simp

theorem int_cells (f : Nat → Int) (n : Nat) : IntCells 1 n (fun i _ => PI (f i)) := fun _ _ _ _ => rfl
/-! ### LedgerValid -/
def sumF (f : Nat → Int) : Nat → Int
  | 0 => 0
  | k + 1 => sumF f k + f k
def allB (p : Nat → Bool) : Nat → Bool
  | 0 => true
  | k + 1 => allB p k && p k
theorem allB_iff {p : Nat → Bool} : ∀ {k : Nat}, allB p k = true ↔ ∀ i, i < k → p i = true
  | 0 => by simp [allB]
  | k + 1 => by
    simp only [allB, Bool.and_eq_true, allB_iff (k := k)]
    constructor
    · intro ⟨h1, h2⟩ i hi
      by_cases h : i = k
      · subst h; exact h2
      · exact h1 i (by omega)
    · intro h; exact ⟨fun i hi => h i (by omega), h k (by omega)⟩
theorem allB_congr {p q : Nat → Bool} : ∀ {k : Nat}, (∀ i, i < k → p i = q i) → allB p k = allB q k
  | 0, _ => rfl
  | k + 1, h => by simp only [allB]; rw [allB_congr fun i hi => h i (by omega), h k (by omega)]
theorem sumF_congr {f g : Nat → Int} : ∀ {k : Nat}, (∀ i, i < k → f i = g i) → sumF f k = sumF g k
  | 0, _ => rfl
  | k + 1, h => by simp only [sumF]; rw [sumF_congr fun i hi => h i (by omega), h k (by omega)]
theorem sumF_bnd {f : Nat → Int} {lo hi : Int} : ∀ {k : Nat}, (∀ i, i < k → lo ≤ f i ∧ f i ≤ hi) → lo * k ≤ sumF f k ∧ sumF f k ≤ hi * k
  | 0, _ => by simp [sumF]
  | k + 1, h => by
    have := sumF_bnd (k := k) fun i hi => h i (by omega)
    have := h k (by omega)
    simp only [sumF, Int.natCast_add, Int.mul_add]
    omega
def ledgerValid (b : Int) (n : Nat) (f : Nat → Int) : Bool := inB b 0 100000 && decide (n ≤ 20) && allB (fun i => inB (f i) 1 100000) n && decide (sumF f n ≤ b)

def in_spLV (b : Int) (nn : Bool) (n : Nat) (f : Nat → Int) := (G0, res12, ([] : List (Nat × Ob)), [Item.ir ir12], start [.ag [AI b, IL nn n f]] [])
theorem ev_spLV : ∀ (b : Int) (nn : Bool) (n : Nat) (f : Nat → Int), ev G0 res12 [] (3000 : Nat) Or.nil [Item.ir ir12] (start [AV.ag [AI b, IL nn n f]] []) = VC.loop ir12_L1 [Item.bend (0 : Nat), Item.ir ir12_T2] (St.mk [((0 : Nat), AV.ag [AV.p true (PV.v (Value.int IntKind.i64 b)), AV.p false (PV.sl nn (1 : Nat) n fun (i x : Nat) => PI (f i))]), ((1 : Nat), AV.adr (1 : Nat) (0 : Nat)), ((2 : Nat), AV.p true (PV.v (Value.bool false))), ((3 : Nat), AV.p true (PV.v (Value.int IntKind.i64 (0 : Int)))), ((4 : Nat), AV.p true (PV.v (Value.int IntKind.i64 (0 : Int))))] [((1 : Nat), Ob.box [AV.p true (PV.v (Value.int IntKind.i64 b)), AV.p false (PV.sl nn (1 : Nat) n fun (i x : Nat) => PI (f i))])]) := by intros; kernel_rfl
def st_spLV (b : Int) (nn : Bool) (n : Nat) (f : Nat → Int) (k : Nat) : St := ⟨[(1, .adr 1 0), (3, AI (sumF f k)), (4, AI k)], [(1, .box [AI b, IL nn n f])]⟩
def r_spLV (b : Int) (nn : Bool) (n : Nat) (f : Nat → Int) (I : Nat → St → Prop) (k : Nat) := (G0, res12, ([] : List (Nat × Ob)), [Item.ir ir12_L1, .lend (I k), Item.bend 0, Item.ir ir12_T2], st_spLV b nn n f k)
theorem evr_spLV : ∀ (b : Int) (nn : Bool) (n : Nat) (f : Nat → Int) (I : Nat → St → Prop) (k : Nat), ev G0 res12 [] (3000 : Nat) (((Or.call [] (AB (inB (f (↑k : Int).toNat) (1 : Int) (100000 : Int))) [] (Or.nil.split Or.nil)).split (Or.call [] (AB (inB b (0 : Int) (100000 : Int))) [] ((Or.nil.lit.lit.lit.lit.split Or.nil.lit.lit.lit.lit).lit.lit.lit.lit.split Or.nil.lit.lit.lit.lit.lit.lit.lit.lit.lit))).lit.lit.split (Or.call [] (AB (inB b (0 : Int) (100000 : Int))) [] ((Or.nil.lit.lit.lit.lit.split Or.nil.lit.lit.lit.lit).lit.lit.lit.lit.split Or.nil.lit.lit.lit.lit.lit.lit.lit.lit.lit)).lit.lit.lit) [Item.ir ir12_L1, Item.lend (I k), Item.bend (0 : Nat), Item.ir ir12_T2] (st_spLV b nn n f k) = VC.split (decide ((↑k : Int) < (↑n : Int))) (VC.split (decide ((↑k : Int) ≤ (20 : Int))) (VC.need ((0 : Int) ≤ (↑k : Int) ∧ (↑k : Int).toNat < n) (VC.call (46 : Nat) [AV.p true (PV.v (Value.int IntKind.i64 (f (↑k : Int).toNat))), AV.p true (PV.v (Value.int IntKind.i64 (1 : Int))), AV.p true (PV.v (Value.int IntKind.i64 (100000 : Int)))] [] (AB (inB (f (↑k : Int).toNat) (1 : Int) (100000 : Int))) [] (VC.split (!inB (f (↑k : Int).toNat) (1 : Int) (100000 : Int)) (VC.doneP (AV.p true (PV.v (Value.bool false)))) (VC.need ((0 : Int) ≤ (↑k : Int) ∧ (↑k : Int).toNat < n) (VC.lend (I k) (St.mk [((1 : Nat), AV.adr (1 : Nat) (0 : Nat)), ((3 : Nat), AV.p true (PV.v (Value.int IntKind.i64 (IntKind.i64.wrap (sumF f k + f (↑k : Int).toNat))))), ((4 : Nat), AV.p true (PV.v (Value.int IntKind.i64 (IntKind.i64.wrap ((↑k : Int) + (1 : Int)))))), ((13 : Nat), AV.p true (PV.v (Value.bool (decide ((↑k : Int) ≤ (20 : Int)))))), ((22 : Nat), AV.p true (PV.v (Value.bool !inB (f (↑k : Int).toNat) (1 : Int) (100000 : Int))))] [((1 : Nat), Ob.box [AV.p true (PV.v (Value.int IntKind.i64 b)), AV.p false (PV.sl nn (1 : Nat) n fun (i x : Nat) => PI (f i))])])))))) (VC.call (46 : Nat) [AV.p true (PV.v (Value.int IntKind.i64 b)), AV.p true (PV.v (Value.int IntKind.i64 (0 : Int))), AV.p true (PV.v (Value.int IntKind.i64 (100000 : Int)))] [] (AB (inB b (0 : Int) (100000 : Int))) [] (VC.split (inB b (0 : Int) (100000 : Int)) (VC.split (decide ((↑n : Int) ≤ (20 : Int))) (VC.doneP (AV.p true (PV.v (Value.bool (decide (sumF f k ≤ b)))))) (VC.doneP (AV.p true (PV.v (Value.bool false))))) (VC.doneP (AV.p true (PV.v (Value.bool false))))))) (VC.call (46 : Nat) [AV.p true (PV.v (Value.int IntKind.i64 b)), AV.p true (PV.v (Value.int IntKind.i64 (0 : Int))), AV.p true (PV.v (Value.int IntKind.i64 (100000 : Int)))] [] (AB (inB b (0 : Int) (100000 : Int))) [] (VC.split (inB b (0 : Int) (100000 : Int)) (VC.split (decide ((↑n : Int) ≤ (20 : Int))) (VC.doneP (AV.p true (PV.v (Value.bool (decide (sumF f k ≤ b)))))) (VC.doneP (AV.p true (PV.v (Value.bool false))))) (VC.doneP (AV.p true (PV.v (Value.bool false)))))) := by intros; kernel_rfl
theorem c_spLV0 (b : Int) (nn : Bool) (n : Nat) (f : Nat → Int) (hn : n ≤ 1048576000) : PRet Try.prog G0 12 [.ag [AI b, IL nn n f]] (AB (ledgerValid b n f)) := by
  refine PRet.by chk12 (ev_spLV b nn n f) ?_
  refine loop_by (st_spLV b nn n f) (fun k => k ≤ n ∧ k ≤ 21 ∧ ∀ i, i < k → inB (f i) 1 100000 = true) (fun k => n - k) 0 [] [] [] (by simp) ?_ (evr_spLV b nn n f) fun k hk => ?_
  · simp [st_spLV, hbs, St.lowers, St.lower, stLe, leEnv, leObs, obLe, injB, pinC, AV.leC, AV.leCs, PV.leC, PV.Le_v, St.get, St.obj, look, rho, isNew, keptC, renH, Mode.ok, Mode.isZ, PV.isVal, PV.isNilSl, List.all_nil, List.all_cons, List.any_nil, List.any_cons, List.map_nil, List.map_cons, sumF]
  · obtain ⟨hk, hk2, hall⟩ := hk
    simp only [VC.holds_split, VC.holds_need, VC.holds_doneP, VC.holds_done, VC.holds_either, VC.holds_call, VC.holds_callE, VC.holds_lend, VC.holds_stop, VC.holds_fail, decide_eq_true_eq, decide_eq_false_iff_not]
    have hsum := sumF_bnd (f := f) (lo := 1) (hi := 100000) (k := k) fun i hi => inB_iff.1 (hall i hi)
    refine ⟨fun h1 => ⟨fun h2 => ⟨by omega, c_l1In _ _ _, fun h3 => ?_, fun h3 => ⟨by omega, Again.mk (k + 1) [] [] [] ⟨by omega, by omega, fun i hi => ?_⟩ (by omega) ?_⟩⟩, fun h2 => ⟨c_l1In _ _ _, fun h3 => ⟨fun h4 => by omega, fun h4 => ?_⟩, fun h3 => ?_⟩⟩, fun h1 => ⟨c_l1In _ _ _, fun h3 => ⟨fun h4 => ?_, fun h4 => ?_⟩, fun h3 => ?_⟩⟩
    · have : allB (fun i => inB (f i) 1 100000) n = false := by
        cases h : allB (fun i => inB (f i) 1 100000) n with
        | false => rfl
        | true =>
          have := allB_iff.1 h k (by omega)
          simp only [Int.toNat_natCast] at h3
          rw [this] at h3; cases h3
      simp [ledgerValid, this]
    · simp only [Int.toNat_natCast, Bool.not_eq_false'] at h3
      by_cases h : i = k
      · subst h; exact h3
      · exact hall i (by omega)
    · simp only [Int.toNat_natCast, Bool.not_eq_false'] at h3
      have := inB_iff.1 h3
      have e1 : IntKind.i64.wrap ((k : Int) + 1) = ((k + 1 : Nat) : Int) := wrap_in (by omega) (by omega)
      have e2 : IntKind.i64.wrap (sumF f k + f k) = sumF f (k + 1) := wrap_in (by omega) (by omega)
      simp [st_spLV, hbs, St.lowers, St.lower, stLe, leEnv, leObs, obLe, injB, pinC, AV.leC, AV.leCs, PV.leC, PV.Le_v, St.get, St.obj, look, rho, isNew, keptC, renH, Mode.ok, Mode.isZ, PV.isVal, PV.isNilSl, List.all_nil, List.all_cons, List.any_nil, List.any_cons, List.map_nil, List.map_cons, e1, e2]
    · have : ¬ n ≤ 20 := by omega
      simp [ledgerValid, this]
    · simp [ledgerValid, h3]
    · have : k = n := by omega
      subst this
      have : allB (fun i => inB (f i) 1 100000) k = true := allB_iff.2 hall
      simp [ledgerValid, h3, this, show k ≤ 20 by omega]
    · simp [ledgerValid, show ¬ n ≤ 20 by omega]
    · simp [ledgerValid, h3]
theorem ledgerValid_congr {b : Int} {n : Nat} {f g : Nat → Int} (h : ∀ i, i < n → f i = g i) : ledgerValid b n f = ledgerValid b n g := by
  unfold ledgerValid
  rw [sumF_congr h, allB_congr (p := fun i => inB (f i) 1 100000) (q := fun i => inB (g i) 1 100000) fun i hi => by simp only [h i hi]]
theorem LG_le {b : Int} {nn : Bool} {n : Nat} {g : Nat → Nat → PV} (hg : IntCells 1 n g) : AV.lePs [LG b nn n g] [.ag [AI b, IL nn n fun i => intOf (g i 0)]] := ⟨⟨AV.leP_p _ _, AV.leP_ints hg, trivial⟩, trivial⟩
theorem c_spLV (b : Int) (nn : Bool) (n : Nat) (g : Nat → Nat → PV) (hg : IntCells 1 n g) (hn : n ≤ 1048576000) : PRet Try.prog G0 12 [LG b nn n g] (AB (ledgerValid b n fun i => intOf (g i 0))) :=
  (c_spLV0 b nn n _ hn).args (LG_le hg)

def in_imLV (b : Int) (nn : Bool) (n : Nat) (f : Nat → Int) := (G0, res14, ([] : List (Nat × Ob)), [Item.ir ir14], start [.ag [AI b, IL nn n f]] [])
theorem ev_imLV : ∀ (b : Int) (nn : Bool) (n : Nat) (f : Nat → Int), ev G0 res14 [] (3000 : Nat) (Or.call [] (AB (inB b (0 : Int) (100000 : Int))) [] (Or.nil.lit.lit.lit.lit.lit.split (Or.nil.split Or.nil).lit.lit.lit.lit)) [Item.ir ir14] (start [AV.ag [AI b, IL nn n f]] []) = VC.call (47 : Nat) [AV.p true (PV.v (Value.int IntKind.i64 b)), AV.p true (PV.v (Value.int IntKind.i64 (0 : Int))), AV.p true (PV.v (Value.int IntKind.i64 (100000 : Int)))] [] (AB (inB b (0 : Int) (100000 : Int))) [] (VC.split (!inB b (0 : Int) (100000 : Int)) (VC.doneP (AV.p true (PV.v (Value.bool false)))) (VC.split (decide ((20 : Int) < (↑n : Int))) (VC.doneP (AV.p true (PV.v (Value.bool false)))) (VC.loop ir14_L1 [Item.bend (0 : Nat), Item.ir ir14_T2] (St.mk [((0 : Nat), AV.ag [AV.p true (PV.v (Value.int IntKind.i64 b)), AV.p false (PV.sl nn (1 : Nat) n fun (i x : Nat) => PI (f i))]), ((1 : Nat), AV.adr (1 : Nat) (0 : Nat)), ((2 : Nat), AV.p true (PV.v (Value.bool false))), ((15 : Nat), AV.p true (PV.v (Value.bool (decide ((20 : Int) < (↑n : Int)))))), ((3 : Nat), AV.p true (PV.v (Value.int IntKind.i64 b))), ((19 : Nat), AV.p false (PV.sl nn (1 : Nat) n fun (i x : Nat) => PI (f i))), ((20 : Nat), AV.p true (PV.v (Value.int IntKind.i64 (↑n : Int)))), ((21 : Nat), AV.p true (PV.v (Value.int IntKind.i64 (0 : Int))))] [((1 : Nat), Ob.box [AV.p true (PV.v (Value.int IntKind.i64 b)), AV.p false (PV.sl nn (1 : Nat) n fun (i x : Nat) => PI (f i))])])))) := by intros; kernel_rfl
def st_imLV (b : Int) (nn : Bool) (n : Nat) (f : Nat → Int) (k : Nat) : St := ⟨[(1, .adr 1 0), (3, AI (b - sumF f k)), (19, IL nn n f), (20, AI n), (21, AI k)], [(1, .box [AI b, IL nn n f])]⟩
def r_imLV (b : Int) (nn : Bool) (n : Nat) (f : Nat → Int) (I : Nat → St → Prop) (k : Nat) := (G0, res14, ([] : List (Nat × Ob)), [Item.ir ir14_L1, .lend (I k), Item.bend 0, Item.ir ir14_T2], st_imLV b nn n f k)
theorem evr_imLV : ∀ (b : Int) (nn : Bool) (n : Nat) (f : Nat → Int) (I : Nat → St → Prop) (k : Nat), ev G0 res14 [] (3000 : Nat) ((Or.call [] (AB (inB (f (↑k : Int).toNat) (1 : Int) (b - sumF f k))) [] (Or.nil.split Or.nil)).split Or.nil) [Item.ir ir14_L1, Item.lend (I k), Item.bend (0 : Nat), Item.ir ir14_T2] (st_imLV b nn n f k) = VC.split (decide ((↑k : Int) < (↑n : Int))) (VC.need ((0 : Int) ≤ (↑k : Int) ∧ (↑k : Int).toNat < n) (VC.call (47 : Nat) [AV.p true (PV.v (Value.int IntKind.i64 (f (↑k : Int).toNat))), AV.p true (PV.v (Value.int IntKind.i64 (1 : Int))), AV.p true (PV.v (Value.int IntKind.i64 (b - sumF f k)))] [] (AB (inB (f (↑k : Int).toNat) (1 : Int) (b - sumF f k))) [] (VC.split (!inB (f (↑k : Int).toNat) (1 : Int) (b - sumF f k)) (VC.doneP (AV.p true (PV.v (Value.bool false)))) (VC.lend (I k) (St.mk [((1 : Nat), AV.adr (1 : Nat) (0 : Nat)), ((3 : Nat), AV.p true (PV.v (Value.int IntKind.i64 (IntKind.i64.wrap (b - sumF f k - f (↑k : Int).toNat))))), ((19 : Nat), AV.p false (PV.sl nn (1 : Nat) n fun (i x : Nat) => PI (f i))), ((20 : Nat), AV.p true (PV.v (Value.int IntKind.i64 (↑n : Int)))), ((21 : Nat), AV.p true (PV.v (Value.int IntKind.i64 (IntKind.i64.wrap ((↑k : Int) + (1 : Int)))))), ((22 : Nat), AV.p true (PV.v (Value.bool (decide ((↑k : Int) < (↑n : Int)))))), ((5 : Nat), AV.p true (PV.v (Value.int IntKind.i64 (f (↑k : Int).toNat)))), ((28 : Nat), AV.p true (PV.v (Value.bool !inB (f (↑k : Int).toNat) (1 : Int) (b - sumF f k))))] [((1 : Nat), Ob.box [AV.p true (PV.v (Value.int IntKind.i64 b)), AV.p false (PV.sl nn (1 : Nat) n fun (i x : Nat) => PI (f i))])]))))) (VC.doneP (AV.p true (PV.v (Value.bool true)))) := by intros; kernel_rfl
theorem lv_sum {b : Int} {n : Nat} {f : Nat → Int} (h : ledgerValid b n f = true) : ∀ k, k ≤ n → sumF f k ≤ b := by
  simp only [ledgerValid, Bool.and_eq_true, decide_eq_true_eq] at h
  obtain ⟨⟨_, h2⟩, h3⟩ := h
  have h2 := allB_iff.1 h2
  have : ∀ d, d ≤ n → sumF f (n - d) ≤ b := by
    intro d
    induction d with
    | zero => intro _; exact h3
    | succ d ih =>
      intro hd
      have h4 := ih (by omega)
      have h5 := inB_iff.1 (h2 (n - (d + 1)) (by omega))
      have e : n - d = (n - (d + 1)) + 1 := by omega
      rw [e, sumF] at h4
      omega
  intro k hk
  have := this (n - k) (by omega)
  rwa [show n - (n - k) = k by omega] at this
theorem c_imLV0 (b : Int) (nn : Bool) (n : Nat) (f : Nat → Int) (hn : n ≤ 1048576000) : PRet Try.prog G0 14 [.ag [AI b, IL nn n f]] (AB (ledgerValid b n f)) := by
  refine PRet.by chk14 (ev_imLV b nn n f) ?_
  simp only [VC.holds_split, VC.holds_need, VC.holds_doneP, VC.holds_done, VC.holds_either, VC.holds_call, VC.holds_callE, VC.holds_lend, VC.holds_stop, VC.holds_fail, decide_eq_true_eq, decide_eq_false_iff_not]
  refine ⟨c_in _ _ _, fun h1 => ?_, fun h1 => ⟨fun h2 => ?_, fun h2 => ?_⟩⟩
  · simp only [Bool.not_eq_true'] at h1
    simp [ledgerValid, h1]
  · simp [ledgerValid, show ¬ n ≤ 20 by omega]
  · simp only [Bool.not_eq_false'] at h1
    have hb := inB_iff.1 h1
    refine loop_by (st_imLV b nn n f) (fun k => k ≤ n ∧ (∀ i, i < k → inB (f i) 1 100000 = true) ∧ sumF f k ≤ b) (fun k => n - k) 0 [] [] [] (by simp [sumF]; omega) ?_ (evr_imLV b nn n f) fun k hk => ?_
    · simp [st_imLV, hbs, St.lowers, St.lower, stLe, leEnv, leObs, obLe, injB, pinC, AV.leC, AV.leCs, PV.leC, PV.Le_v, St.get, St.obj, look, rho, isNew, keptC, renH, Mode.ok, Mode.isZ, PV.isVal, PV.isNilSl, List.all_nil, List.all_cons, List.any_nil, List.any_cons, List.map_nil, List.map_cons, sumF]
    · obtain ⟨hk, hall, hs⟩ := hk
      simp only [VC.holds_split, VC.holds_need, VC.holds_doneP, VC.holds_done, VC.holds_either, VC.holds_call, VC.holds_callE, VC.holds_lend, VC.holds_stop, VC.holds_fail, decide_eq_true_eq, decide_eq_false_iff_not]
      have hsum := sumF_bnd (f := f) (lo := 1) (hi := 100000) (k := k) fun i hi => inB_iff.1 (hall i hi)
      simp only [Int.toNat_natCast]
      refine ⟨fun h3 => ⟨by omega, c_in _ _ _, fun h4 => ?_, fun h4 => Again.mk (k + 1) [] [] [] ⟨by omega, fun i hi => ?_, ?_⟩ (by omega) ?_⟩, fun h3 => ?_⟩
      · cases h : ledgerValid b n f with
        | false => simp
        | true =>
          have h5 := lv_sum h (k + 1) (by omega)
          simp only [ledgerValid, Bool.and_eq_true, decide_eq_true_eq] at h
          have h6 := inB_iff.1 (allB_iff.1 h.1.2 k (by omega))
          simp only [sumF] at h5
          have : inB (f k) 1 (b - sumF f k) = true := inB_iff.2 ⟨by omega, by omega⟩
          rw [this] at h4
          cases h4
      · simp only [Bool.not_eq_false'] at h4
        have := inB_iff.1 h4
        by_cases h : i = k
        · subst h; exact inB_iff.2 ⟨by omega, by omega⟩
        · exact hall i (by omega)
      · simp only [Bool.not_eq_false'] at h4
        have := inB_iff.1 h4
        simp only [sumF]; omega
      · simp only [Bool.not_eq_false'] at h4
        have := inB_iff.1 h4
        have e1 : IntKind.i64.wrap ((k : Int) + 1) = ((k + 1 : Nat) : Int) := wrap_in (by omega) (by omega)
        have e2 : IntKind.i64.wrap (b - sumF f k - f k) = b - sumF f (k + 1) := (wrap_in (by omega) (by omega)).trans (by simp only [sumF]; omega)
        simp [st_imLV, hbs, St.lowers, St.lower, stLe, leEnv, leObs, obLe, injB, pinC, AV.leC, AV.leCs, PV.leC, PV.Le_v, St.get, St.obj, look, rho, isNew, keptC, renH, Mode.ok, Mode.isZ, PV.isVal, PV.isNilSl, List.all_nil, List.all_cons, List.any_nil, List.any_cons, List.map_nil, List.map_cons, e1, e2]
      · have : k = n := by omega
        subst this
        have : allB (fun i => inB (f i) 1 100000) k = true := allB_iff.2 hall
        simp [ledgerValid, h1, this, hs, show k ≤ 20 by omega]
theorem c_imLV (b : Int) (nn : Bool) (n : Nat) (g : Nat → Nat → PV) (hg : IntCells 1 n g) (hn : n ≤ 1048576000) : PRet Try.prog G0 14 [LG b nn n g] (AB (ledgerValid b n fun i => intOf (g i 0))) :=
  (c_imLV0 b nn n _ hn).args (LG_le hg)

/-! ### A ledger as an argument -/
theorem leaves_ledger : leaves Try.prog 12 24 = some [.int .i64, .sl [.int .i64]] := by kernel_rfl
theorem args_ledger {ts : List TypeId} {xs : List AV} (h : Args Try.prog (24 :: ts) xs) :
    ∃ b nn n g cs, n ≤ maxLen ∧ IntCells 1 n g ∧ Args Try.prog ts cs ∧ xs = .ag [.p false (PI b), SL nn 1 n g] :: cs := by
  cases h with
  | cons t ts ls l cs hl hlen hfit h =>
    rw [leaves_ledger] at hl
    cases hl
    match l, hlen with
    | [c0, c1], _ =>
      obtain ⟨b, rfl, _⟩ := fit_int (hfit 0 _ rfl)
      obtain ⟨nn, n, g, h1, hn, hg⟩ := fit_sl (hfit 1 _ rfl)
      simp only [List.getD_cons_succ, List.getD_cons_zero] at h1
      subst h1
      refine ⟨b, nn, n, g, cs, hn, fit_cells (fun j l hj => ?_) hg, h, ?_⟩
      · match j, hj with
        | 0, hj => cases hj; rfl
      · unfold argOf
        rw [Try.underlying24]
        rfl

/-! ### The law -/
def in_law (b : Int) (nn : Bool) (n : Nat) (f : Nat → Int) := (G0, res3, ([] : List (Nat × Ob)), [Item.ir ir3], start [.ag [AI b, IL nn n f]] [])
theorem ev_law : ∀ (b : Int) (nn : Bool) (n : Nat) (f : Nat → Int), ev G0 res3 [] (3000 : Nat) (Or.call [] (AI (szN n (1048576 : Int))) [] (Or.nil.split (Or.call [] (AV.ag [AI b, AV.own (0 : Nat)]) [((0 : Nat), Ob.row Mode.u true (1 : Nat) n (fun (i x : Nat) => PI (intOf (PI (f i)))) [])] (Or.call [] (AB (ledgerValid b n fun (i : Nat) => intOf (PI (intOf (PI (f i)))))) [] (Or.call [] (AV.ag [AI b, AV.own (0 : Nat)]) [((0 : Nat), Ob.row Mode.u true (1 : Nat) n (fun (i x : Nat) => PI (intOf (PI (f i)))) [])] (Or.call [] (AB (ledgerValid b n fun (i : Nat) => intOf (PI (intOf (PI (f i)))))) [] (Or.nil.split (Or.call [] (AV.ag [AI b, AV.own (0 : Nat)]) [((0 : Nat), Ob.row Mode.u true (1 : Nat) n (fun (i x : Nat) => PI (intOf (PI (f i)))) [])] (Or.call [] (AB true) [] Or.nil.lit))))))))) [Item.ir ir3] (start [AV.ag [AI b, IL nn n f]] []) = VC.call (11 : Nat) [AV.ag [AV.p true (PV.v (Value.int IntKind.i64 b)), AV.p false (PV.sl nn (1 : Nat) n fun (i x : Nat) => PI (f i))], AV.p true (PV.v (Value.int IntKind.i64 (1048576 : Int)))] [] (AI (szN n (1048576 : Int))) [] (VC.split (decide (szN n (1048576 : Int) < (0 : Int))) (VC.doneP (AV.p true (PV.v (Value.bool true)))) (VC.call (13 : Nat) [AV.ag [AV.p true (PV.v (Value.int IntKind.i64 b)), AV.p false (PV.sl nn (1 : Nat) n fun (i x : Nat) => PI (f i))]] [] (AV.ag [AI b, AV.own (0 : Nat)]) [((0 : Nat), Ob.row Mode.u true (1 : Nat) n (fun (i x : Nat) => PI (intOf (PI (f i)))) [])] (VC.call (12 : Nat) [AV.ag [AV.p true (PV.v (Value.int IntKind.i64 b)), AV.p false (PV.sl true (1 : Nat) n fun (i x : Nat) => PI (intOf (PI (f i))))]] [] (AB (ledgerValid b n fun (i : Nat) => intOf (PI (intOf (PI (f i)))))) [] (VC.call (13 : Nat) [AV.ag [AV.p true (PV.v (Value.int IntKind.i64 b)), AV.p false (PV.sl nn (1 : Nat) n fun (i x : Nat) => PI (f i))]] [] (AV.ag [AI b, AV.own (0 : Nat)]) [((0 : Nat), Ob.row Mode.u true (1 : Nat) n (fun (i x : Nat) => PI (intOf (PI (f i)))) [])] (VC.call (14 : Nat) [AV.ag [AV.p true (PV.v (Value.int IntKind.i64 b)), AV.p false (PV.sl true (1 : Nat) n fun (i x : Nat) => PI (intOf (PI (f i))))]] [] (AB (ledgerValid b n fun (i : Nat) => intOf (PI (intOf (PI (f i)))))) [] (VC.split (!(ledgerValid b n fun (i : Nat) => intOf (PI (intOf (PI (f i))))) == ledgerValid b n fun (i : Nat) => intOf (PI (intOf (PI (f i))))) (VC.doneP (AV.p true (PV.v (Value.bool false)))) (VC.call (13 : Nat) [AV.ag [AV.p true (PV.v (Value.int IntKind.i64 b)), AV.p false (PV.sl nn (1 : Nat) n fun (i x : Nat) => PI (f i))]] [] (AV.ag [AI b, AV.own (0 : Nat)]) [((0 : Nat), Ob.row Mode.u true (1 : Nat) n (fun (i x : Nat) => PI (intOf (PI (f i)))) [])] (VC.call (15 : Nat) [AV.ag [AV.p true (PV.v (Value.int IntKind.i64 b)), AV.p false (PV.sl true (1 : Nat) n fun (i x : Nat) => PI (intOf (PI (f i))))], AV.ag [AV.p true (PV.v (Value.int IntKind.i64 b)), AV.p false (PV.sl true (1 : Nat) n fun (i x : Nat) => PI (intOf (PI (f i))))]] [] (AB true) [] (VC.doneP (AV.p true (PV.v (Value.bool true)))))))))))) := by intros; kernel_rfl
theorem szN_ok {n : Nat} {l : Int} (hn : n ≤ maxLen) (h1 : 0 ≤ l) (h2 : l ≤ 1048576) (h : ¬ szN n l < 0) : (n : Int) ≤ l := by
  have hm : maxLen = 9223372036854775807 := rfl
  rw [szN_neg h, wrap_in (by omega) (by omega)] at h
  omega
theorem c_law0 (b : Int) (nn : Bool) (n : Nat) (f : Nat → Int) (hn : n ≤ maxLen) : PRet Try.prog G0 3 [.ag [AI b, IL nn n f]] (AB true) := by
  refine PRet.by chk3 (ev_law b nn n f) ?_
  simp only [VC.holds_split, VC.holds_need, VC.holds_doneP, VC.holds_done, VC.holds_either, VC.holds_call, VC.holds_callE, VC.holds_lend, VC.holds_stop, VC.holds_fail, decide_eq_true_eq, decide_eq_false_iff_not]
  refine ⟨c_szLedger _ _ _ _ _, fun h => by simp, fun h => ?_⟩
  have hn' : n ≤ 1048576 := by have := szN_ok hn (by omega) (by omega) h; omega
  have hi := int_cells f n
  have hi' := int_cells (fun i => intOf (PI (f i))) n
  refine ⟨c_toLedger _ _ _ _ hi hn', c_spLV _ _ _ _ hi' (by omega), c_toLedger _ _ _ _ hi hn', c_imLV _ _ _ _ hi' (by omega), fun h2 => by simp at h2, fun h2 => ⟨c_toLedger _ _ _ _ hi hn', c_eqLedger _ _ _ _ _ _ hi' (fun i hi => rfl) (by omega), ?_⟩⟩
  simp
theorem law (xs : List AV) (h : Args Try.prog Try.f3.params.toList xs) : PRet Try.prog [] 3 xs (AB true) := by
  have hp : Try.f3.params.toList = [24] := by kernel_rfl
  rw [hp] at h
  obtain ⟨b, nn, n, g, cs, hn, hg, h2, rfl⟩ := args_ledger h
  cases h2
  exact (c_law0 b nn n _ hn).args ⟨⟨⟨fun _ => .inr ⟨rfl, rfl⟩, PV.leC_rfl _⟩, AV.leP_ints hg, trivial⟩, trivial⟩
end Go.Gw
