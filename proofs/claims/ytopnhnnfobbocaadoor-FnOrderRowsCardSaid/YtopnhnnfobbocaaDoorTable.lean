/- Tables: measured, copied, compared, written over, read again; with no condition. -/
import Derived.Test.YtopnhnnfobbocaaDoorTabV
import Derived.KernelRfl
namespace Go.Gw
open Go Go.Proofs
set_option linter.unusedSimpArgs false
set_option linter.unusedVariables false
set_option maxRecDepth 100000
def ir38 : Ir :=
  (.seq
  (.reg [] [o 2 (.box 2 (tt 0)),
    o 4 (.mov (ci 0))])
  (.seq
  (.reg [5, 6, 7, 8] [o 5 (.fadr 0 (tt 2)),
    o 6 (.load false 1 (tt 5)),
    o 7 (.mov (tt 1)),
    o 8 (.call 102 [(tt 6), (tt 7)]),
    o 1 (.mov (tt 8))])
  (.seq
  (.seq
  (.reg [9] [o 9 (.mov (tt 1)),
    o 10 (.bin .lss (tt 9) (ci 0))])
  (.cond (tt 10)
   (.seq
   (.reg [] [o 4 (.mov (ci (-1)))])
   .ret)
   .skip))
  (.seq
  (.reg [11, 12, 13, 14] [o 11 (.fadr 1 (tt 2)),
    o 12 (.load false 1 (tt 11)),
    o 13 (.mov (tt 1)),
    o 14 (.call 103 [(tt 12), (tt 13)]),
    o 1 (.mov (tt 14))])
  (.seq
  (.seq
  (.reg [15] [o 15 (.mov (tt 1)),
    o 16 (.bin .lss (tt 15) (ci 0))])
  (.cond (tt 16)
   (.seq
   (.reg [] [o 4 (.mov (ci (-1)))])
   .ret)
   .skip))
  (.seq
  (.reg [17] [o 17 (.mov (tt 1)),
    o 4 (.mov (tt 17))])
  .ret))))))
def keep38 : List Nat := [0, 1, 2, 4, 10, 16]
def res38 : List RI := [.tmp 4]
theorem chk38 : chk Tryd.prog 38 2 keep38 = some (ir38, res38) := by kernel_rfl
def ir39 : Ir :=
  (.seq
  (.reg [] [o 1 (.box 2 (tt 0)),
    o 2 (.alloc [(.slice none 0 0), (.slice none 0 0)])])
  (.seq
  (.reg [] [o 3 (.alloc [(.slice none 0 0), (.slice none 0 0)])])
  (.seq
  (.reg [4, 5, 6, 7] [o 4 (.fadr 0 (tt 1)),
    o 5 (.load false 1 (tt 4)),
    o 6 (.call 104 [(tt 5)]),
    o 7 (.fadr 0 (tt 3)),
    on (.store 1 (tt 7) (tt 6))])
  (.seq
  (.reg [8, 9, 10, 11] [o 8 (.fadr 1 (tt 1)),
    o 9 (.load false 1 (tt 8)),
    o 10 (.call 105 [(tt 9)]),
    o 11 (.fadr 1 (tt 3)),
    on (.store 1 (tt 11) (tt 10))])
  (.seq
  (.reg [12] [o 12 (.load true 2 (tt 3)),
    on (.store 2 (tt 2) (tt 12))])
  .ret)))))
def keep39 : List Nat := [0, 1, 2, 3]
def res39 : List RI := [.cell true 2 2]
theorem chk39 : chk Tryd.prog 39 1 keep39 = some (ir39, res39) := by kernel_rfl
def ir24 : Ir :=
  (.seq
  (.reg [] [o 2 (.box 2 (tt 0)),
    o 3 (.box 2 (tt 1)),
    o 4 (.mov (cb false))])
  (.seq
  (.seq
  (.reg [5, 6, 7, 8, 9] [o 5 (.fadr 0 (tt 2)),
    o 6 (.load false 1 (tt 5)),
    o 7 (.fadr 0 (tt 3)),
    o 8 (.load false 1 (tt 7)),
    o 9 (.call 77 [(tt 6), (tt 8)]),
    o 10 (.un .not (tt 9))])
  (.cond (tt 10)
   (.seq
   (.reg [] [o 4 (.mov (cb false))])
   .ret)
   .skip))
  (.seq
  (.seq
  (.reg [11, 12, 13, 14, 15] [o 11 (.fadr 1 (tt 2)),
    o 12 (.load false 1 (tt 11)),
    o 13 (.fadr 1 (tt 3)),
    o 14 (.load false 1 (tt 13)),
    o 15 (.call 78 [(tt 12), (tt 14)]),
    o 16 (.un .not (tt 15))])
  (.cond (tt 16)
   (.seq
   (.reg [] [o 4 (.mov (cb false))])
   .ret)
   .skip))
  (.seq
  (.reg [] [o 4 (.mov (cb true))])
  .ret))))
def keep24 : List Nat := [0, 1, 2, 3, 4, 10, 16]
def res24 : List RI := [.tmp 4]
theorem chk24 : chk Tryd.prog 24 2 keep24 = some (ir24, res24) := by kernel_rfl
def ir27 : Ir :=
  (.seq
  (.reg [] [o 2 (.box 2 (tt 0)),
    o 4 (.mov (ci 0))])
  (.seq
  (.reg [5, 6, 7, 8] [o 5 (.fadr 0 (tt 2)),
    o 6 (.load false 1 (tt 5)),
    o 7 (.mov (tt 1)),
    o 8 (.call 81 [(tt 6), (tt 7)]),
    o 1 (.mov (tt 8))])
  (.seq
  (.reg [9, 10, 11, 12] [o 9 (.fadr 1 (tt 2)),
    o 10 (.load false 1 (tt 9)),
    o 11 (.mov (tt 1)),
    o 12 (.call 82 [(tt 10), (tt 11)]),
    o 1 (.mov (tt 12))])
  (.seq
  (.reg [13] [o 13 (.mov (tt 1)),
    o 4 (.mov (tt 13))])
  .ret))))
def keep27 : List Nat := [0, 1, 2, 4]
def res27 : List RI := [.tmp 4]
theorem chk27 : chk Tryd.prog 27 2 keep27 = some (ir27, res27) := by kernel_rfl
def ir28 : Ir :=
  (.seq
  (.reg [] [o 2 (.box 2 (tt 0)),
    o 4 (.mov (ci 0))])
  (.seq
  (.reg [5, 6, 7, 8] [o 5 (.fadr 0 (tt 2)),
    o 6 (.load false 1 (tt 5)),
    o 7 (.mov (tt 1)),
    o 8 (.call 83 [(tt 6), (tt 7)]),
    o 1 (.mov (tt 8))])
  (.seq
  (.seq
  (.reg [9] [o 9 (.mov (tt 1)),
    o 10 (.bin .lss (tt 9) (ci 0))])
  (.cond (tt 10)
   (.seq
   (.reg [] [o 4 (.mov (ci (-1)))])
   .ret)
   .skip))
  (.seq
  (.reg [11, 12, 13, 14] [o 11 (.fadr 1 (tt 2)),
    o 12 (.load false 1 (tt 11)),
    o 13 (.mov (tt 1)),
    o 14 (.call 84 [(tt 12), (tt 13)]),
    o 1 (.mov (tt 14))])
  (.seq
  (.seq
  (.reg [15] [o 15 (.mov (tt 1)),
    o 16 (.bin .lss (tt 15) (ci 0))])
  (.cond (tt 16)
   (.seq
   (.reg [] [o 4 (.mov (ci (-1)))])
   .ret)
   .skip))
  (.seq
  (.reg [17] [o 17 (.mov (tt 1)),
    o 4 (.mov (tt 17))])
  .ret))))))
def keep28 : List Nat := [0, 1, 2, 4, 10, 16]
def res28 : List RI := [.tmp 4]
theorem chk28 : chk Tryd.prog 28 2 keep28 = some (ir28, res28) := by kernel_rfl
def ir125 : Ir :=
  (.seq
  (.reg [] [o 2 (.mov (.const (.slice none 0 0)))])
  (.seq
  (.seq
  (.reg [3] [o 3 (.mov (tt 0)),
    o 4 (.isNil false (tt 3))])
  (.cond (tt 4)
   (.seq
   (.reg [] [o 2 (.mov (.const (.slice none 0 0)))])
   .ret)
   .skip))
  (.seq
  (.reg [5, 6, 7] [o 5 (.mkSl 1 0 [(.int .i64 0)] []),
    o 6 (.mov (tt 0)),
    o 7 (.app 1 8 true (tt 5) (tt 6)),
    o 2 (.mov (tt 7))])
  .ret)))
def keep125 : List Nat := [0, 2, 4]
def res125 : List RI := [.tmp 2]
theorem chk125 : chk Tryd.prog 125 1 keep125 = some (ir125, res125) := by kernel_rfl

abbrev taR : AV := .ag [.own 0, .own 1]
abbrev taH (n : Nat) (f : Nat → ByteArray) (m : Nat) (w : Nat → Nat) (h : Nat → Nat → Int) : List (Nat × Ob) := [(0, .row .u false 1 n (TR f) []), (1, .row .u false 1 m (RR w h) [])]
theorem allOne_RR {m : Nat} {w : Nat → Nat} {h : Nat → Nat → Int} : allOne 1 m (RR w h) := fun _ _ _ _ => rfl
theorem allV_TR {n : Nat} {f : Nat → ByteArray} : allV 1 n (TR f) := fun _ _ _ _ => rfl
def in_szA (nn nn' : Bool) (n : Nat) (f : Nat → ByteArray) (m : Nat) (w : Nat → Nat) (h : Nat → Nat → Int) (l : Int) := (G0, res38, ([] : List (Nat × Ob)), [Item.ir ir38], start [TA nn nn' n f m w h, AI l] [])
theorem ev_szA : ∀ (nn nn' : Bool) (n : Nat) (f : Nat → ByteArray) (m : Nat) (w : Nat → Nat) (h : Nat → Nat → Int) (l : Int), ev G0 res38 [] (3000 : Nat) (Or.callE [] Int (fun (r : Int) => r = (-1 : Int) ∨ (0 : Int) ≤ r ∧ r + (↑n : Int) + (↑(sumN (fun (i : Nat) => (f i).size) n) : Int) = l) (fun (r : Int) => AI r) (fun (x : Int) => []) fun (r : Int) => Or.nil.split (Or.callE [] Int (fun (r_1 : Int) => r_1 = (-1 : Int) ∨ (0 : Int) ≤ r_1 ∧ r_1 + (↑m : Int) + (↑(sumN w m) : Int) = r) (fun (r_1 : Int) => AI r_1) (fun (x : Int) => []) fun (r_1 : Int) => Or.nil.split Or.nil)) [Item.ir ir38] (start [TA nn nn' n f m w h, AI l] []) = VC.callE Int (102 : Nat) [AV.p false (PV.sl nn (1 : Nat) n fun (i x : Nat) => PT (f i)), AV.p true (PV.v (Value.int IntKind.i64 l))] [] (fun (r : Int) => r = (-1 : Int) ∨ (0 : Int) ≤ r ∧ r + (↑n : Int) + (↑(sumN (fun (i : Nat) => (f i).size) n) : Int) = l) (fun (r : Int) => AI r) (fun (x : Int) => []) fun (r : Int) => VC.split (decide (r < (0 : Int))) (VC.doneP (AV.p true (PV.v (Value.int IntKind.i64 (-1 : Int))))) (VC.callE Int (103 : Nat) [AV.p false (PV.sl nn' (1 : Nat) m (RR w h)), AV.p true (PV.v (Value.int IntKind.i64 r))] [] (fun (r_1 : Int) => r_1 = (-1 : Int) ∨ (0 : Int) ≤ r_1 ∧ r_1 + (↑m : Int) + (↑(sumN w m) : Int) = r) (fun (r_1 : Int) => AI r_1) (fun (x : Int) => []) fun (r_1 : Int) => VC.split (decide (r_1 < (0 : Int))) (VC.doneP (AV.p true (PV.v (Value.int IntKind.i64 (-1 : Int))))) (VC.doneP (AV.p true (PV.v (Value.int IntKind.i64 r_1))))) := by intros; kernel_rfl
def tabSz (n : Nat) (f : Nat → ByteArray) (m : Nat) (w : Nat → Nat) : Nat := n + sumN (fun i => (f i).size) n + (m + sumN w m)
theorem c_szA (nn nn' : Bool) (n : Nat) (f : Nat → ByteArray) (m : Nat) (w : Nat → Nat) (h : Nat → Nat → Int) (l : Int) (hn : n ≤ maxLen) (hf : ∀ i, (f i).size ≤ maxLen) (hm : m ≤ maxLen) (hw : ∀ i, w i ≤ maxLen) (hl0 : 0 ≤ l) (hl : l ≤ 1048576) :
    PSome Tryd.prog G0 38 [TA nn nn' n f m w h, AI l] [] Int (fun r => r = -1 ∨ (0 ≤ r ∧ r + (tabSz n f m w : Nat) = l)) (fun r => AI r) (fun _ => []) := by
  refine PCall.by chk38 rfl (ev_szA nn nn' n f m w h l) ?_
  simp only [VC.holds_split, VC.holds_need, VC.holds_doneP, VC.holds_done, VC.holds_either, VC.holds_call, VC.holds_callE, VC.holds_lend, VC.holds_stop, VC.holds_fail, decide_eq_true_eq, decide_eq_false_iff_not]
  refine ⟨c_szT _ _ _ _ hn hl0 hl hf, fun r hr => ⟨fun h1 => ⟨-1, .inl rfl, rfl, trivial⟩, fun h1 => ?_⟩⟩
  have hr := hr.resolve_left (by omega)
  refine ⟨c_szR _ _ _ _ _ hm hr.1 (by omega) hw, fun r' hr' => ⟨fun h2 => ⟨-1, .inl rfl, rfl, trivial⟩, fun h2 => ?_⟩⟩
  have hr' := hr'.resolve_left (by omega)
  exact ⟨r', .inr ⟨hr'.1, by unfold tabSz; omega⟩, rfl, trivial⟩
theorem tab_bounds {n : Nat} {f : Nat → ByteArray} {m : Nat} {w : Nat → Nat} {b : Nat} (h : tabSz n f m w ≤ b) : n ≤ b ∧ m ≤ b ∧ (∀ i, i < n → (f i).size ≤ b) ∧ (∀ i, i < m → w i ≤ b) ∧ sumN w m ≤ b := by
  unfold tabSz at h
  refine ⟨by omega, by omega, fun i hi => ?_, fun i hi => ?_, by omega⟩
  · have := sumN_le (w := fun i => (f i).size) hi; omega
  · have := sumN_le (w := w) hi; omega
def in_toA (nn nn' : Bool) (n : Nat) (f : Nat → ByteArray) (m : Nat) (w : Nat → Nat) (h : Nat → Nat → Int) := (G0, res39, ([] : List (Nat × Ob)), [Item.ir ir39], start [TA nn nn' n f m w h] [])
theorem ev_toA : ∀ (nn nn' : Bool) (n : Nat) (f : Nat → ByteArray) (m : Nat) (w : Nat → Nat) (h : Nat → Nat → Int), ev G0 res39 [] (3000 : Nat) (Or.call [] (AV.own (0 : Nat)) [((0 : Nat), Ob.row Mode.u true (1 : Nat) n (TR f) [])] (Or.call [] (AV.own (0 : Nat)) [((0 : Nat), Ob.row Mode.u true (1 : Nat) m (RR w h) [])] Or.nil)) [Item.ir ir39] (start [TA nn nn' n f m w h] []) = VC.call (104 : Nat) [AV.p false (PV.sl nn (1 : Nat) n fun (i x : Nat) => PT (f i))] [] (AV.own (0 : Nat)) [((0 : Nat), Ob.row Mode.u true (1 : Nat) n (TR f) [])] (VC.call (105 : Nat) [AV.p false (PV.sl nn' (1 : Nat) m (RR w h))] [] (AV.own (0 : Nat)) [((0 : Nat), Ob.row Mode.u true (1 : Nat) m (RR w h) [])] (VC.done (St.mk [((0 : Nat), AV.ag [AV.p false (PV.sl nn (1 : Nat) n fun (i x : Nat) => PT (f i)), AV.p false (PV.sl nn' (1 : Nat) m (RR w h))]), ((1 : Nat), AV.adr (1 : Nat) (0 : Nat)), ((2 : Nat), AV.adr (2 : Nat) (0 : Nat)), ((3 : Nat), AV.adr (3 : Nat) (0 : Nat))] [((1 : Nat), Ob.box [AV.p false (PV.sl nn (1 : Nat) n fun (i x : Nat) => PT (f i)), AV.p false (PV.sl nn' (1 : Nat) m (RR w h))]), ((2 : Nat), Ob.box [AV.own (1006 : Nat), AV.own (1010 : Nat)]), ((3 : Nat), Ob.box [AV.own (1006 : Nat), AV.own (1010 : Nat)]), ((1006 : Nat), Ob.row Mode.u true (1 : Nat) n (TR f) []), ((1010 : Nat), Ob.row Mode.u true (1 : Nat) m (RR w h) [])]))) := by intros; kernel_rfl
theorem c_toA (nn nn' : Bool) (n : Nat) (f : Nat → ByteArray) (m : Nat) (w : Nat → Nat) (h : Nat → Nat → Int) (hn : n ≤ 1048576) (hm : m ≤ 1048576) (hw : ∀ i, i < m → w i ≤ 1048576) : PObj Tryd.prog G0 39 [TA nn nn' n f m w h] [] taR (taH n f m w h) := by
  refine PObj.by chk39 rfl (ev_toA nn nn' n f m w h) ?_
  simp only [VC.holds_split, VC.holds_need, VC.holds_doneP, VC.holds_done, VC.holds_either, VC.holds_call, VC.holds_callE, VC.holds_lend, VC.holds_stop, VC.holds_fail, decide_eq_true_eq, decide_eq_false_iff_not]
  refine ⟨c_toT _ _ _ hn, c_toR _ _ _ _ hm hw, ResOk.mk [] [(0, 1006), (1, 1010)] [] _ _ ?_ ⟨rfl, rfl⟩⟩
  simp [doneC, resOf, resAV, tup, pinR, PV.Le_self, hbs, St.lowers, St.lower, stLe, leEnv, leObs, obLe, injB, pinC, AV.leC, AV.leCs, PV.leC, PV.Le_v, St.get, St.obj, look, rho, isNew, keptC, renH, Mode.ok, Mode.isZ, PV.isVal, PV.isNilSl, List.all_nil, List.all_cons, List.any_nil, List.any_cons, List.map_nil, List.map_cons, res39]
def in_eqA (nn nn' mm mm' : Bool) (n : Nat) (f : Nat → ByteArray) (m : Nat) (w : Nat → Nat) (h : Nat → Nat → Int) := (G0, res24, ([] : List (Nat × Ob)), [Item.ir ir24], start [TA nn nn' n f m w h, TA mm mm' n f m w h] [])
theorem ev_eqA : ∀ (nn nn' mm mm' : Bool) (n : Nat) (f : Nat → ByteArray) (m : Nat) (w : Nat → Nat) (h : Nat → Nat → Int), ev G0 res24 [] (3000 : Nat) (Or.call [] (AB true) [] (Or.call [] (AB true) [] Or.nil.lit).lit) [Item.ir ir24] (start [TA nn nn' n f m w h, TA mm mm' n f m w h] []) = VC.call (77 : Nat) [AV.p false (PV.sl nn (1 : Nat) n fun (i x : Nat) => PT (f i)), AV.p false (PV.sl mm (1 : Nat) n fun (i x : Nat) => PT (f i))] [] (AB true) [] (VC.call (78 : Nat) [AV.p false (PV.sl nn' (1 : Nat) m (RR w h)), AV.p false (PV.sl mm' (1 : Nat) m (RR w h))] [] (AB true) [] (VC.doneP (AV.p true (PV.v (Value.bool true))))) := by intros; kernel_rfl
theorem c_eqA (nn nn' mm mm' : Bool) (n : Nat) (f : Nat → ByteArray) (m : Nat) (w : Nat → Nat) (h : Nat → Nat → Int) (hn : n ≤ 1048576000) (hm : m ≤ 1048576000) (hw : ∀ i, i < m → w i ≤ 1048576000) : PRet Tryd.prog G0 24 [TA nn nn' n f m w h, TA mm mm' n f m w h] (AB true) := by
  refine PRet.by chk24 (ev_eqA nn nn' mm mm' n f m w h) ?_
  simp only [VC.holds_split, VC.holds_need, VC.holds_doneP, VC.holds_done, VC.holds_either, VC.holds_call, VC.holds_callE, VC.holds_lend, VC.holds_stop, VC.holds_fail, decide_eq_true_eq, decide_eq_false_iff_not]
  refine ⟨c_eqT _ _ _ _ hn, c_eqR _ _ _ _ _ hm hw, ?_⟩
  simp
def in_mkA (nn nn' : Bool) (n : Nat) (f : Nat → ByteArray) (m : Nat) (w : Nat → Nat) (h : Nat → Nat → Int) (v : Int) := (G0, res27, [(0, Ob.row .u nn 1 n (TR f) []), (1, Ob.row .u nn' 1 m (RR w h) [])], [Item.ir ir27], start [taR, AI v] [(0, Ob.row .u nn 1 n (TR f) []), (1, Ob.row .u nn' 1 m (RR w h) [])])
theorem ev_mkA : ∀ (nn nn' : Bool) (n : Nat) (f : Nat → ByteArray) (m : Nat) (w : Nat → Nat) (h : Nat → Nat → Int) (v : Int), ev G0 res27 [((0 : Nat), Ob.row Mode.u nn (1 : Nat) n (TR f) []), ((1 : Nat), Ob.row Mode.u nn' (1 : Nat) m (RR w h) [])] (3000 : Nat) (Or.call [(100000 : Nat)] (AI (v + (↑n : Int))) [((0 : Nat), Ob.row Mode.u nn (1 : Nat) n (TR fun (i : Nat) => markT (v + (↑i : Int))) [])] (Or.call [(100001 : Nat)] (AI (v + (↑n : Int) + (↑(sumN w m) : Int))) [((0 : Nat), Ob.row Mode.u nn' (1 : Nat) m (RR w (mkH w (v + (↑n : Int)))) [])] Or.nil)) [Item.ir ir27] (start [taR, AI v] [((0 : Nat), Ob.row Mode.u nn (1 : Nat) n (TR f) []), ((1 : Nat), Ob.row Mode.u nn' (1 : Nat) m (RR w h) [])]) = VC.call (81 : Nat) [AV.own (0 : Nat), AV.p true (PV.v (Value.int IntKind.i64 v))] [((0 : Nat), Ob.row Mode.u nn (1 : Nat) n (TR f) [])] (AI (v + (↑n : Int))) [((0 : Nat), Ob.row Mode.u nn (1 : Nat) n (TR fun (i : Nat) => markT (v + (↑i : Int))) [])] (VC.call (82 : Nat) [AV.own (0 : Nat), AV.p true (PV.v (Value.int IntKind.i64 (v + (↑n : Int))))] [((0 : Nat), Ob.row Mode.u nn' (1 : Nat) m (RR w h) [])] (AI (v + (↑n : Int) + (↑(sumN w m) : Int))) [((0 : Nat), Ob.row Mode.u nn' (1 : Nat) m (RR w (mkH w (v + (↑n : Int)))) [])] (VC.done (St.mk [((0 : Nat), AV.ag [AV.own (100000 : Nat), AV.own (100001 : Nat)]), ((1 : Nat), AV.p true (PV.v (Value.int IntKind.i64 (v + (↑n : Int) + (↑(sumN w m) : Int))))), ((2 : Nat), AV.adr (2 : Nat) (0 : Nat)), ((4 : Nat), AV.p true (PV.v (Value.int IntKind.i64 (v + (↑n : Int) + (↑(sumN w m) : Int)))))] [((100000 : Nat), Ob.row Mode.u nn (1 : Nat) n (TR fun (i : Nat) => markT (v + (↑i : Int))) []), ((100001 : Nat), Ob.row Mode.u nn' (1 : Nat) m (RR w (mkH w (v + (↑n : Int)))) []), ((2 : Nat), Ob.box [AV.own (100000 : Nat), AV.own (100001 : Nat)])]))) := by intros; kernel_rfl
theorem c_mkA (nn nn' : Bool) (n : Nat) (f : Nat → ByteArray) (m : Nat) (w : Nat → Nat) (h : Nat → Nat → Int) (v : Int) (hn : n ≤ 16777216) (hm : m ≤ 16777216) (hw : sumN w m ≤ 16777216) (hv1 : 0 ≤ v) (hv2 : v ≤ 268435456) :
    PObj Tryd.prog G0 27 [taR, AI v] [(0, Ob.row .u nn 1 n (TR f) []), (1, Ob.row .u nn' 1 m (RR w h) [])] (AI (v + n + (sumN w m : Nat))) (taH n (fun i => markT (v + i)) m w (mkH w (v + n))) := by
  refine PObj.by chk27 rfl (ev_mkA nn nn' n f m w h v) ?_
  simp only [VC.holds_split, VC.holds_need, VC.holds_doneP, VC.holds_done, VC.holds_either, VC.holds_call, VC.holds_callE, VC.holds_lend, VC.holds_stop, VC.holds_fail, decide_eq_true_eq, decide_eq_false_iff_not]
  refine ⟨c_mkT _ _ _ _ hn hv1 (by omega), c_mkR _ _ _ _ _ hm hw (by omega) (by omega), ResOk.mk [] [(0, 100000), (1, 100001)] [] _ _ ?_ ⟨rfl, rfl⟩⟩
  simp [doneC, resOf, resAV, tup, pinR, PV.Le_self, hbs, St.lowers, St.lower, stLe, leEnv, leObs, obLe, injB, pinC, AV.leC, AV.leCs, PV.leC, PV.Le_v, St.get, St.obj, look, rho, isNew, keptC, renH, Mode.ok, Mode.isZ, PV.isVal, PV.isNilSl, List.all_nil, List.all_cons, List.any_nil, List.any_cons, List.map_nil, List.map_cons, res27, hbs]
def in_hdA (nn nn' : Bool) (n : Nat) (m : Nat) (w : Nat → Nat) (v : Int) := (G0, res28, ([] : List (Nat × Ob)), [Item.ir ir28], start [TA nn nn' n (fun i => markT (v + i)) m w (mkH w (v + n)), AI v] [])
theorem ev_hdA : ∀ (nn nn' : Bool) (n m : Nat) (w : Nat → Nat) (v : Int), ev G0 res28 [] (3000 : Nat) (Or.call [] (AI (v + (↑n : Int))) [] (Or.nil.split (Or.call [] (AI (v + (↑n : Int) + (↑(sumN w m) : Int))) [] (Or.nil.split Or.nil)))) [Item.ir ir28] (start [TA nn nn' n (fun (i : Nat) => markT (v + (↑i : Int))) m w (mkH w (v + (↑n : Int))), AI v] []) = VC.call (83 : Nat) [AV.p false (PV.sl nn (1 : Nat) n fun (i x : Nat) => PT (markT (v + (↑i : Int)))), AV.p true (PV.v (Value.int IntKind.i64 v))] [] (AI (v + (↑n : Int))) [] (VC.split (decide (v + (↑n : Int) < (0 : Int))) (VC.doneP (AV.p true (PV.v (Value.int IntKind.i64 (-1 : Int))))) (VC.call (84 : Nat) [AV.p false (PV.sl nn' (1 : Nat) m (RR w (mkH w (v + (↑n : Int))))), AV.p true (PV.v (Value.int IntKind.i64 (v + (↑n : Int))))] [] (AI (v + (↑n : Int) + (↑(sumN w m) : Int))) [] (VC.split (decide (v + (↑n : Int) + (↑(sumN w m) : Int) < (0 : Int))) (VC.doneP (AV.p true (PV.v (Value.int IntKind.i64 (-1 : Int))))) (VC.doneP (AV.p true (PV.v (Value.int IntKind.i64 (v + (↑n : Int) + (↑(sumN w m) : Int))))))))) := by intros; kernel_rfl
theorem c_hdA (nn nn' : Bool) (n : Nat) (m : Nat) (w : Nat → Nat) (v : Int) (hn : n ≤ 16777216) (hm : m ≤ 16777216) (hw : sumN w m ≤ 16777216) (hv1 : 0 ≤ v) (hv2 : v ≤ 268435456) :
    PRet Tryd.prog G0 28 [TA nn nn' n (fun i => markT (v + i)) m w (mkH w (v + n)), AI v] (AI (v + n + (sumN w m : Nat))) := by
  refine PRet.by chk28 (ev_hdA nn nn' n m w v) ?_
  simp only [VC.holds_split, VC.holds_need, VC.holds_doneP, VC.holds_done, VC.holds_either, VC.holds_call, VC.holds_callE, VC.holds_lend, VC.holds_stop, VC.holds_fail, decide_eq_true_eq, decide_eq_false_iff_not]
  refine ⟨c_hdT _ _ _ hn hv1 (by omega), fun h => by omega, fun h => ⟨c_hdR _ _ _ _ hm hw (by omega) (by omega), fun h => by omega, fun h => ?_⟩⟩
  simp
/-! ### copies -/
def in_clI0 (n : Nat) (f : Nat → Int) := (G0, res125, ([] : List (Nat × Ob)), [Item.ir ir125], start [IL false n f] [])
theorem ev_clI : ∀ (n : Nat) (f : Nat → Int), ev G0 res125 [] (3000 : Nat) (Or.nil.lit.split Or.nil.lit) [Item.ir ir125] (start [IL false n f] []) = VC.either (n = (0 : Nat)) (VC.done (St.mk [((0 : Nat), AV.p false (PV.sl false (1 : Nat) n fun (i x : Nat) => PI (f i))), ((2 : Nat), AV.p true (PV.v (Value.slice none (0 : Nat) (0 : Nat)))), ((4 : Nat), AV.p true (PV.v (Value.bool true)))] [])) (VC.need ((((0 : Nat) + n) * (8 : Nat) ≤ (140737488355328 : Nat) ∧ (↑((0 : Nat) + n) : Int) ≤ (9223372036854775807 : Int)) ∧ allV (1 : Nat) n fun (i x : Nat) => PI (f i)) (VC.done (St.mk [((0 : Nat), AV.p false (PV.sl false (1 : Nat) n fun (i x : Nat) => PI (f i))), ((2 : Nat), AV.own (7 : Nat)), ((4 : Nat), AV.p true (PV.v (Value.bool false)))] [((7 : Nat), Ob.row Mode.u true (1 : Nat) ((0 : Nat) + n) (fun (a b : Nat) => if a < (0 : Nat) then setG [] (fun (x j : Nat) => PV.v ([Value.int IntKind.i64 (0 : Int)].getD j undef)) a b else PI (f (a - (0 : Nat)))) [])]))) := by intros; kernel_rfl
end Go.Gw
