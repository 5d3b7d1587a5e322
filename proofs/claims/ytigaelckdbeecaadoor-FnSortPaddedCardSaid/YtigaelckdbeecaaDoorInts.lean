/- Small functions on whole numbers and rows of them; with no condition. -/
import Derived.Test.YtigaelckdbeecaaDoorGw26
import Derived.IntWalk
import Derived.KernelRfl
import Derived.Test.YtigaelckdbeecaaDoorProg
namespace Go.Gw
open Go Go.Proofs
set_option linter.unusedSimpArgs false
set_option linter.unusedVariables false
set_option maxRecDepth 100000
abbrev reservedW : List ByteArray := [⟨#[115, 101, 108, 101, 99, 116]⟩, ⟨#[102, 114, 111, 109]⟩, ⟨#[106, 111, 105, 110]⟩, ⟨#[111, 110]⟩, ⟨#[119, 104, 101, 114, 101]⟩, ⟨#[97, 110, 100]⟩, ⟨#[111, 114]⟩, ⟨#[103, 114, 111, 117, 112]⟩, ⟨#[98, 121]⟩, ⟨#[115, 117, 109]⟩, ⟨#[111, 114, 100, 101, 114]⟩, ⟨#[100, 111, 119, 110]⟩, ⟨#[108, 105, 109, 105, 116]⟩]
abbrev G0 : List (Nat × PV) := [(0, .pp 1 fun _ => strRow reservedW)]
def ir47 : Ir :=
  (.seq
  (.reg [] [o 6 (.mov (cb false))])
  (.seq
  (.reg [7, 8, 9, 10, 11, 12, 13, 14] [o 7 (.mov (tt 1)),
    o 8 (.mov (tt 0)),
    o 9 (.bin .leq (tt 7) (tt 8)),
    o 10 (.mov (tt 9)),
    og 11 10 true (.mov (tt 0)),
    og 12 10 true (.mov (tt 2)),
    og 13 10 true (.bin .leq (tt 11) (tt 12)),
    o 14 (.pick (tt 10) (tt 13) (cb false)),
    o 6 (.mov (tt 14))])
  .ret))
def keep47 : List Nat := [0, 1, 2, 6]
def res47 : List RI := [.tmp 6]
theorem chk47 : chk Tryd.prog 47 3 keep47 = some (ir47, res47) := by kernel_rfl
def ir57 : Ir :=
  (.seq
  (.reg [] [o 6 (.mov (cb false))])
  (.seq
  (.reg [7, 8, 9, 10, 11, 12, 13, 14] [o 7 (.mov (tt 0)),
    o 8 (.mov (tt 1)),
    o 9 (.bin .geq (tt 7) (tt 8)),
    o 10 (.mov (tt 9)),
    og 11 10 true (.mov (tt 0)),
    og 12 10 true (.mov (tt 2)),
    og 13 10 true (.bin .leq (tt 11) (tt 12)),
    o 14 (.pick (tt 10) (tt 13) (cb false)),
    o 6 (.mov (tt 14))])
  .ret))
def keep57 : List Nat := [0, 1, 2, 6]
def res57 : List RI := [.tmp 6]
theorem chk57 : chk Tryd.prog 57 3 keep57 = some (ir57, res57) := by kernel_rfl

abbrev W (n : Int) : Int := IntKind.i64.wrap n
theorem wrap_in {n : Int} (h1 : -9223372036854775808 ≤ n) (h2 : n ≤ 9223372036854775807) : W n = n := IntWalk.i64_in n (by omega)

/-! ### in -/
def inB (x lo hi : Int) : Bool := decide (lo ≤ x) && decide (x ≤ hi)
theorem ev_in : ∀ (x lo hi : Int), ev G0 res47 [] (3000 : Nat) (Or.nil.lit.lit.lit.split Or.nil.lit.lit.lit) [Item.ir ir47] (start [AI x, AI lo, AI hi] []) = VC.split (decide (lo ≤ x)) (VC.doneP (AV.p true (PV.v (Value.bool (decide (x ≤ hi)))))) (VC.doneP (AV.p true (PV.v (Value.bool false)))) := by intros; kernel_rfl
theorem c_in (x lo hi : Int) : PRet Tryd.prog G0 47 [AI x, AI lo, AI hi] (AB (inB x lo hi)) := by
  refine PRet.by chk47 (ev_in x lo hi) ?_
  simp only [VC.holds_split, VC.holds_need, VC.holds_doneP, VC.holds_done, VC.holds_either, VC.holds_call, VC.holds_callE, VC.holds_lend, VC.holds_stop, VC.holds_fail, decide_eq_true_eq, decide_eq_false_iff_not]
  simp +contextual [inB]
  try omega
theorem ev_l1In : ∀ (x lo hi : Int), ev G0 res57 [] (3000 : Nat) (Or.nil.lit.lit.lit.split Or.nil.lit.lit.lit) [Item.ir ir57] (start [AI x, AI lo, AI hi] []) = VC.split (decide (lo ≤ x)) (VC.doneP (AV.p true (PV.v (Value.bool (decide (x ≤ hi)))))) (VC.doneP (AV.p true (PV.v (Value.bool false)))) := by intros; kernel_rfl
theorem c_l1In (x lo hi : Int) : PRet Tryd.prog G0 57 [AI x, AI lo, AI hi] (AB (inB x lo hi)) := by
  refine PRet.by chk57 (ev_l1In x lo hi) ?_
  simp only [VC.holds_split, VC.holds_need, VC.holds_doneP, VC.holds_done, VC.holds_either, VC.holds_call, VC.holds_callE, VC.holds_lend, VC.holds_stop, VC.holds_fail, decide_eq_true_eq, decide_eq_false_iff_not]
  simp +contextual [inB]
  try omega

end Go.Gw

namespace Go.Gw
open Go Go.Proofs
set_option linter.unusedSimpArgs false
set_option linter.unusedVariables false
set_option maxRecDepth 100000


end Go.Gw

namespace Go.Gw
open Go Go.Proofs
set_option linter.unusedSimpArgs false
set_option linter.unusedVariables false
set_option maxRecDepth 100000


theorem int_cells (f : Nat → Int) (n : Nat) : IntCells 1 n (fun i _ => PI (f i)) := fun _ _ _ _ => rfl
/-! ### LedgerValid -/
def allB (p : Nat → Bool) : Nat → Bool
  | 0 => true
  | k + 1 => allB p k && p k
theorem allB_iff {p : Nat → Bool} : ∀ {k : Nat}, allB p k = true ↔ ∀ i, i < k → p i = true
  | 0 => by simp [allB]
  | k + 1 => by
    simp only [allB, Bool.and_eq_true, allB_iff (k := k)]
    constructor
    · intro ⟨h1, h2⟩ i hi
      by_cases h : i = k
      · subst h; exact h2
      · exact h1 i (by omega)
    · intro h; exact ⟨fun i hi => h i (by omega), h k (by omega)⟩
end Go.Gw

namespace Go.Gw
open Go Go.Proofs
set_option linter.unusedSimpArgs false
set_option linter.unusedVariables false
set_option maxRecDepth 100000
def ir52_L1 : Ir :=
  (.seq
  (.reg [] [o 9 (.bin .lss (tt 8) (tt 7))])
  (.seq
  (.cond (tt 9)
   .skip
   (.exit 0))
  (.seq
  (.block 1
   (.seq
   (.reg [10] [o 10 (.mov (tt 8)),
     o 5 (.mov (tt 10))])
   (.seq
   (.reg [11, 12, 13, 14, 15] [o 11 (.mov (tt 1)),
     o 12 (.mov (tt 0)),
     o 13 (.mov (tt 5)),
     o 14 (.idx 1 (tt 12) (tt 13)),
     o 15 (.load false 1 (tt 14)),
     o 16 (.bin .eql (tt 11) (tt 15))])
   (.cond (tt 16)
    (.seq
    (.reg [17] [o 17 (.mov (tt 5)),
      o 4 (.mov (tt 17))])
    .ret)
    .skip))))
  (.reg [18] [o 18 (.bin .add (tt 8) (ci 1)),
    o 8 (.mov (tt 18))]))))
def ir52_T2 : Ir :=
  (.seq
  (.reg [] [o 4 (.mov (ci (-1)))])
  .ret)
def ir52 : Ir :=
  (.seq
  (.reg [] [o 4 (.mov (ci 0))])
  (.seq
  (.seq
  (.reg [6] [o 6 (.mov (tt 0)),
    o 7 (.len (tt 6)),
    o 8 (.mov (ci 0))])
  (.block 0
   (.loop ir52_L1)))
  ir52_T2))
def keep52 : List Nat := [0, 1, 4, 5, 7, 8, 9, 16]
def res52 : List RI := [.tmp 4]
theorem chk52 : chk Tryd.prog 52 2 keep52 = some (ir52, res52) := by kernel_rfl
def ir21 : Ir :=
  (.seq
  (.reg [] [o 4 (.mov (cb false))])
  (.seq
  (.reg [5, 6, 7, 8] [o 5 (.mov (tt 0)),
    o 6 (.mov (tt 1)),
    o 7 (.call 52 [(tt 5), (tt 6)]),
    o 8 (.bin .geq (tt 7) (ci 0)),
    o 4 (.mov (tt 8))])
  .ret))
def keep21 : List Nat := [0, 1, 4]
def res21 : List RI := [.tmp 4]
theorem chk21 : chk Tryd.prog 21 2 keep21 = some (ir21, res21) := by kernel_rfl
def ir33_L1 : Ir :=
  (.seq
  (.reg [] [o 7 (.bin .lss (tt 6) (tt 5))])
  (.seq
  (.cond (tt 7)
   .skip
   (.exit 0))
  (.seq
  (.block 1
   (.seq
   (.reg [8] [o 8 (.mov (tt 6)),
     o 3 (.mov (tt 8))])
   (.seq
   (.reg [9, 10, 11, 12, 13, 14, 15, 16, 17] [o 9 (.mov (tt 0)),
     o 10 (.mov (tt 3)),
     o 11 (.idxS (tt 9) (tt 10)),
     o 12 (.bin .lss (tt 11) (.const (.int .u8 97))),
     o 13 (.mov (tt 12)),
     og 14 13 false (.mov (tt 0)),
     og 15 13 false (.mov (tt 3)),
     og 16 13 false (.idxS (tt 14) (tt 15)),
     og 17 13 false (.bin .gtr (tt 16) (.const (.int .u8 122))),
     o 18 (.pick (tt 13) (cb true) (tt 17))])
   (.cond (tt 18)
    (.seq
    (.reg [] [o 2 (.mov (cb false))])
    .ret)
    .skip))))
  (.reg [19] [o 19 (.bin .add (tt 6) (ci 1)),
    o 6 (.mov (tt 19))]))))
def ir33_T2 : Ir :=
  (.seq
  (.reg [20, 21, 22, 23, 24, 25, 26, 27, 28] [o 20 (.mov (tt 0)),
    o 21 (.lenS (tt 20)),
    o 22 (.call 47 [(tt 21), (ci 1), (ci 8)]),
    o 23 (.mov (tt 22)),
    og 24 23 true (.load false 1 (.global 0)),
    og 25 23 true (.mov (tt 0)),
    og 26 23 true (.call 21 [(tt 24), (tt 25)]),
    og 27 23 true (.un .not (tt 26)),
    o 28 (.pick (tt 23) (tt 27) (cb false)),
    o 2 (.mov (tt 28))])
  .ret)
def ir33 : Ir :=
  (.seq
  (.reg [] [o 2 (.mov (cb false))])
  (.seq
  (.seq
  (.reg [4] [o 4 (.mov (tt 0)),
    o 5 (.lenS (tt 4)),
    o 6 (.mov (ci 0))])
  (.block 0
   (.loop ir33_L1)))
  ir33_T2))
def keep33 : List Nat := [0, 2, 3, 5, 6, 7, 18]
def res33 : List RI := [.tmp 2]
theorem chk33 : chk Tryd.prog 33 1 keep33 = some (ir33, res33) := by kernel_rfl
def ir9 : Ir :=
  (.seq
  (.reg [] [o 0 (.mov (cb false))])
  (.seq
  (.reg [1] [o 1 (.call 33 [(.const (.string ⟨#[107, 101, 121]⟩))]),
    o 0 (.mov (tt 1))])
  .ret))
def keep9 : List Nat := [0]
def res9 : List RI := [.tmp 0]
theorem chk9 : chk Tryd.prog 9 0 keep9 = some (ir9, res9) := by kernel_rfl

abbrev PT (s : ByteArray) : PV := .v (.string s)
abbrev AT (s : ByteArray) : AV := .p true (PT s)
abbrev TL (nn : Bool) (n : Nat) (f : Nat → ByteArray) : AV := .p false (.sl nn 1 n fun i _ => PT (f i))
def hasT (f : Nat → ByteArray) (s : ByteArray) (n : Nat) : Bool := !allB (fun i => !(s.toList == (f i).toList)) n
theorem ev_idxT : ∀ (nn : Bool) (n : Nat) (f : Nat → ByteArray) (s : ByteArray), ev G0 res52 [] (3000 : Nat) Or.nil [Item.ir ir52] (start [TL nn n f, AT s] []) = VC.loop ir52_L1 [Item.bend (0 : Nat), Item.ir ir52_T2] (St.mk [((0 : Nat), AV.p false (PV.sl nn (1 : Nat) n fun (i x : Nat) => PT (f i))), ((1 : Nat), AV.p true (PV.v (Value.string s))), ((4 : Nat), AV.p true (PV.v (Value.int IntKind.i64 (0 : Int)))), ((7 : Nat), AV.p true (PV.v (Value.int IntKind.i64 (↑n : Int)))), ((8 : Nat), AV.p true (PV.v (Value.int IntKind.i64 (0 : Int))))] []) := by intros; kernel_rfl
def st_idxT (nn : Bool) (n : Nat) (f : Nat → ByteArray) (s : ByteArray) (k : Nat) : St := ⟨[(0, TL nn n f), (1, AT s), (7, AI n), (8, AI k)], []⟩
theorem evr_idxT : ∀ (nn : Bool) (n : Nat) (f : Nat → ByteArray) (s : ByteArray) (I : Nat → St → Prop) (k : Nat), ev G0 res52 [] (3000 : Nat) ((Or.nil.split Or.nil).split Or.nil) [Item.ir ir52_L1, Item.lend (I k), Item.bend (0 : Nat), Item.ir ir52_T2] (st_idxT nn n f s k) = VC.split (decide ((↑k : Int) < (↑n : Int))) (VC.need ((0 : Int) ≤ (↑k : Int) ∧ (↑k : Int).toNat < n) (VC.split (s.toList == (f (↑k : Int).toNat).toList) (VC.doneP (AV.p true (PV.v (Value.int IntKind.i64 (↑k : Int))))) (VC.lend (I k) (St.mk [((0 : Nat), AV.p false (PV.sl nn (1 : Nat) n fun (i x : Nat) => PT (f i))), ((1 : Nat), AV.p true (PV.v (Value.string s))), ((7 : Nat), AV.p true (PV.v (Value.int IntKind.i64 (↑n : Int)))), ((8 : Nat), AV.p true (PV.v (Value.int IntKind.i64 (IntKind.i64.wrap ((↑k : Int) + (1 : Int)))))), ((9 : Nat), AV.p true (PV.v (Value.bool (decide ((↑k : Int) < (↑n : Int)))))), ((5 : Nat), AV.p true (PV.v (Value.int IntKind.i64 (↑k : Int)))), ((16 : Nat), AV.p true (PV.v (Value.bool (s.toList == (f (↑k : Int).toNat).toList))))] [])))) (VC.doneP (AV.p true (PV.v (Value.int IntKind.i64 (-1 : Int))))) := by intros; kernel_rfl
theorem c_idxT (nn : Bool) (n : Nat) (f : Nat → ByteArray) (s : ByteArray) (hn : n ≤ 1048576) : PSome Tryd.prog G0 52 [TL nn n f, AT s] [] Int (fun r => decide (0 ≤ r) = hasT f s n) (fun r => AI r) (fun _ => []) := by
  refine PCall.by chk52 rfl (ev_idxT nn n f s) ?_
  refine loop_by (st_idxT nn n f s) (fun k => k ≤ n ∧ ∀ j, j < k → (s.toList == (f j).toList) = false) (fun k => n - k) 0 [] [] [] (by simp) ?_ (evr_idxT nn n f s) fun k hk => ?_
  · simp [st_idxT, hbs, St.lowers, St.lower, stLe, leEnv, leObs, obLe, injB, pinC, AV.leC, AV.leCs, PV.leC, PV.Le_v, St.get, St.obj, look, rho, isNew, keptC, renH, Mode.ok, Mode.isZ, PV.isVal, PV.isNilSl, List.all_nil, List.all_cons, List.any_nil, List.any_cons, List.map_nil, List.map_cons]
  · obtain ⟨hk, hall⟩ := hk
    simp only [VC.holds_split, VC.holds_need, VC.holds_doneP, VC.holds_done, VC.holds_either, VC.holds_call, VC.holds_callE, VC.holds_lend, VC.holds_stop, VC.holds_fail, decide_eq_true_eq, decide_eq_false_iff_not, Int.toNat_natCast]
    refine ⟨fun h1 => ⟨by omega, fun h2 => ?_, fun h2 => Again.mk (k + 1) [] [] [] ⟨by omega, fun j hj => ?_⟩ (by omega) ?_⟩, fun h1 => ?_⟩
    · have : allB (fun i => !(s.toList == (f i).toList)) n = false := by
        cases h3 : allB (fun i => !(s.toList == (f i).toList)) n with
        | false => rfl
        | true =>
          have := allB_iff.1 h3 k (by omega)
          simp only [Bool.not_eq_true'] at this
          rw [h2] at this; cases this
      exact ⟨k, by simp [hasT, this], rfl, trivial⟩
    · by_cases h3 : j = k
      · subst h3; exact h2
      · exact hall j (by omega)
    · have e1 : IntKind.i64.wrap ((k : Int) + 1) = ((k + 1 : Nat) : Int) := wrap_in (by omega) (by omega)
      simp only [e1, st_idxT]
      simp [hbs, St.lowers, St.lower, stLe, leEnv, leObs, obLe, injB, pinC, AV.leC, AV.leCs, PV.leC, PV.Le_v, St.get, St.obj, look, rho, isNew, keptC, renH, Mode.ok, Mode.isZ, PV.isVal, PV.isNilSl, List.all_nil, List.all_cons, List.any_nil, List.any_cons, List.map_nil, List.map_cons]
    · have : k = n := by omega
      subst this
      have : allB (fun i => !(s.toList == (f i).toList)) k = true := allB_iff.2 fun i hi => by rw [hall i hi]; rfl
      exact ⟨-1, by simp [hasT, this], rfl, trivial⟩
theorem ev_hasT : ∀ (nn : Bool) (n : Nat) (f : Nat → ByteArray) (s : ByteArray), ev G0 res21 [] (3000 : Nat) (Or.callE [] Int (fun (r : Int) => decide ((0 : Int) ≤ r) = hasT f s n) (fun (r : Int) => AI r) (fun (x : Int) => []) fun (r : Int) => Or.nil) [Item.ir ir21] (start [TL nn n f, AT s] []) = VC.callE Int (52 : Nat) [AV.p false (PV.sl nn (1 : Nat) n fun (i x : Nat) => PT (f i)), AV.p true (PV.v (Value.string s))] [] (fun (r : Int) => decide ((0 : Int) ≤ r) = hasT f s n) (fun (r : Int) => AI r) (fun (x : Int) => []) fun (r : Int) => VC.doneP (AV.p true (PV.v (Value.bool (decide ((0 : Int) ≤ r))))) := by intros; kernel_rfl
theorem c_hasT (nn : Bool) (n : Nat) (f : Nat → ByteArray) (s : ByteArray) (hn : n ≤ 1048576) : PRet Tryd.prog G0 21 [TL nn n f, AT s] (AB (hasT f s n)) := by
  refine PRet.by chk21 (ev_hasT nn n f s) ?_
  simp only [VC.holds_split, VC.holds_need, VC.holds_doneP, VC.holds_done, VC.holds_either, VC.holds_call, VC.holds_callE, VC.holds_lend, VC.holds_stop, VC.holds_fail, decide_eq_true_eq, decide_eq_false_iff_not]
  refine ⟨c_idxT _ _ _ _ hn, fun r hr => ?_⟩
  simp [← hr]

def byteI (s : ByteArray) (i : Nat) : Int := ((s.data.toList.getD i 0).toNat : Int)
def lowC (s : ByteArray) (i : Nat) : Bool := decide (97 ≤ byteI s i) && decide (byteI s i ≤ 122)
def nameB (s : ByteArray) : Bool := allB (lowC s) s.size && inB s.size 1 8 && !hasT (fun i => reservedW.getD i ByteArray.empty) s 13
theorem ev_nameV : ∀ (s : ByteArray), ev G0 res33 [] (3000 : Nat) Or.nil [Item.ir ir33] (start [AT s] []) = VC.loop ir33_L1 [Item.bend (0 : Nat), Item.ir ir33_T2] (St.mk [((0 : Nat), AV.p true (PV.v (Value.string s))), ((2 : Nat), AV.p true (PV.v (Value.bool false))), ((5 : Nat), AV.p true (PV.v (Value.int IntKind.i64 (↑s.size : Int)))), ((6 : Nat), AV.p true (PV.v (Value.int IntKind.i64 (0 : Int))))] []) := by intros; kernel_rfl
def st_nameV (s : ByteArray) (k : Nat) : St := ⟨[(0, AT s), (5, AI s.size), (6, AI k)], []⟩
theorem evr_nameV : ∀ (s : ByteArray) (I : Nat → St → Prop) (k : Nat), ev G0 res33 [] (3000 : Nat) ((Or.nil.lit.lit.lit.lit.lit.split (Or.nil.split Or.nil).lit.lit.lit.lit).split (Or.call [] (AB (inB (↑s.size : Int) (1 : Int) (8 : Int))) [] ((Or.call [] (AB (hasT (fun (i : Nat) => reservedW.getD i ByteArray.empty) s (13 : Nat))) [] Or.nil.lit.lit).lit.lit.split Or.nil.lit.lit.lit.lit))) [Item.ir ir33_L1, Item.lend (I k), Item.bend (0 : Nat), Item.ir ir33_T2] (st_nameV s k) = VC.split (decide ((↑k : Int) < (↑s.size : Int))) (VC.need ((0 : Int) ≤ (↑k : Int) ∧ (↑k : Int).toNat < s.size) (VC.split (decide ((↑(s.data.toList.getD (↑k : Int).toNat (0 : UInt8)).toNat : Int) < (97 : Int))) (VC.doneP (AV.p true (PV.v (Value.bool false)))) (VC.need ((0 : Int) ≤ (↑k : Int) ∧ (↑k : Int).toNat < s.size) (VC.split (decide ((122 : Int) < (↑(s.data.toList.getD (↑k : Int).toNat (0 : UInt8)).toNat : Int))) (VC.doneP (AV.p true (PV.v (Value.bool false)))) (VC.lend (I k) (St.mk [((0 : Nat), AV.p true (PV.v (Value.string s))), ((5 : Nat), AV.p true (PV.v (Value.int IntKind.i64 (↑s.size : Int)))), ((6 : Nat), AV.p true (PV.v (Value.int IntKind.i64 (IntKind.i64.wrap ((↑k : Int) + (1 : Int)))))), ((7 : Nat), AV.p true (PV.v (Value.bool (decide ((↑k : Int) < (↑s.size : Int)))))), ((3 : Nat), AV.p true (PV.v (Value.int IntKind.i64 (↑k : Int)))), ((18 : Nat), AV.p true (PV.v (Value.bool (decide ((122 : Int) < (↑(s.data.toList.getD (↑k : Int).toNat (0 : UInt8)).toNat : Int))))))] [])))))) (VC.call (47 : Nat) [AV.p true (PV.v (Value.int IntKind.i64 (↑s.size : Int))), AV.p true (PV.v (Value.int IntKind.i64 (1 : Int))), AV.p true (PV.v (Value.int IntKind.i64 (8 : Int)))] [] (AB (inB (↑s.size : Int) (1 : Int) (8 : Int))) [] (VC.split (inB (↑s.size : Int) (1 : Int) (8 : Int)) (VC.call (21 : Nat) [AV.p false (PV.sl true (1 : Nat) (13 : Nat) fun (i x : Nat) => PV.v (Value.string (reservedW.getD i ByteArray.empty))), AV.p true (PV.v (Value.string s))] [] (AB (hasT (fun (i : Nat) => reservedW.getD i ByteArray.empty) s (13 : Nat))) [] (VC.doneP (AV.p true (PV.v (Value.bool !hasT (fun (i : Nat) => reservedW.getD i ByteArray.empty) s (13 : Nat)))))) (VC.doneP (AV.p true (PV.v (Value.bool false)))))) := by intros; kernel_rfl
theorem c_nameV (s : ByteArray) (hs : s.size ≤ 1048576000) : PRet Tryd.prog G0 33 [AT s] (AB (nameB s)) := by
  refine PRet.by chk33 (ev_nameV s) ?_
  refine loop_by (st_nameV s) (fun k => k ≤ s.size ∧ ∀ j, j < k → lowC s j = true) (fun k => s.size - k) 0 [] [] [] (by simp) ?_ (evr_nameV s) fun k hk => ?_
  · simp [st_nameV, hbs, St.lowers, St.lower, stLe, leEnv, leObs, obLe, injB, pinC, AV.leC, AV.leCs, PV.leC, PV.Le_v, St.get, St.obj, look, rho, isNew, keptC, renH, Mode.ok, Mode.isZ, PV.isVal, PV.isNilSl, List.all_nil, List.all_cons, List.any_nil, List.any_cons, List.map_nil, List.map_cons]
  · obtain ⟨hk, hall⟩ := hk
    simp only [VC.holds_split, VC.holds_need, VC.holds_doneP, VC.holds_done, VC.holds_either, VC.holds_call, VC.holds_callE, VC.holds_lend, VC.holds_stop, VC.holds_fail, decide_eq_true_eq, decide_eq_false_iff_not, Int.toNat_natCast]
    refine ⟨fun h1 => ⟨by omega, fun h2 => ?_, fun h2 => ⟨by omega, fun h3 => ?_, fun h3 => Again.mk (k + 1) [] [] [] ⟨by omega, fun j hj => ?_⟩ (by omega) ?_⟩⟩, fun h1 => ⟨c_in _ _ _, fun h2 => ⟨c_hasT _ _ _ _ (by omega), ?_⟩, fun h2 => ?_⟩⟩
    · have h4 : lowC s k = false := by
        have : ¬ 97 ≤ byteI s k := by unfold byteI; omega
        simp [lowC, this]
      have : allB (lowC s) s.size = false := by
        cases h5 : allB (lowC s) s.size with
        | false => rfl
        | true => rw [allB_iff.1 h5 k (by omega)] at h4; cases h4
      simp [nameB, this]
    · have h4 : lowC s k = false := by
        have : ¬ byteI s k ≤ 122 := by unfold byteI; omega
        simp [lowC, this]
      have : allB (lowC s) s.size = false := by
        cases h5 : allB (lowC s) s.size with
        | false => rfl
        | true => rw [allB_iff.1 h5 k (by omega)] at h4; cases h4
      simp [nameB, this]
    · by_cases h4 : j = k
      · subst h4
        have h5 : 97 ≤ byteI s j := by unfold byteI; omega
        have h6 : byteI s j ≤ 122 := by unfold byteI; omega
        simp [lowC, h5, h6]
      · exact hall j (by omega)
    · have e1 : IntKind.i64.wrap ((k : Int) + 1) = ((k + 1 : Nat) : Int) := wrap_in (by omega) (by omega)
      simp only [e1, st_nameV]
      simp [hbs, St.lowers, St.lower, stLe, leEnv, leObs, obLe, injB, pinC, AV.leC, AV.leCs, PV.leC, PV.Le_v, St.get, St.obj, look, rho, isNew, keptC, renH, Mode.ok, Mode.isZ, PV.isVal, PV.isNilSl, List.all_nil, List.all_cons, List.any_nil, List.any_cons, List.map_nil, List.map_cons]
    · have hks : k = s.size := by omega
      have : allB (lowC s) s.size = true := allB_iff.2 fun j hj => hall j (by omega)
      simp [nameB, this, h2]
    · simp [nameB, h2]
theorem ev_alive : ev G0 res9 [] (3000 : Nat) (Or.call [] (AB (nameB (ByteArray.mk #[(107 : UInt8), (101 : UInt8), (121 : UInt8)]))) [] Or.nil) [Item.ir ir9] (start [] []) = VC.call (33 : Nat) [AV.p true (PV.v (Value.string (ByteArray.mk #[(107 : UInt8), (101 : UInt8), (121 : UInt8)])))] [] (AB (nameB (ByteArray.mk #[(107 : UInt8), (101 : UInt8), (121 : UInt8)]))) [] (VC.doneP (AV.p true (PV.v (Value.bool true)))) := by intros; kernel_rfl
theorem key_name : nameB ⟨#[107, 101, 121]⟩ = true := by kernel_rfl
theorem c_alive : PRet Tryd.prog G0 9 [] (AB true) := by
  refine PRet.by chk9 ev_alive ?_
  simp only [VC.holds_split, VC.holds_need, VC.holds_doneP, VC.holds_done, VC.holds_either, VC.holds_call, VC.holds_callE, VC.holds_lend, VC.holds_stop, VC.holds_fail, decide_eq_true_eq, decide_eq_false_iff_not]
  refine ⟨c_nameV _ (by decide), ?_⟩
  simp [key_name]
end Go.Gw
