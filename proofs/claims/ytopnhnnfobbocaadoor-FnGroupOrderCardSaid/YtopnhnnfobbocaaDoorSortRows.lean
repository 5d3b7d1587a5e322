/- SortRows, of the program and of the model; with no condition. -/
import Derived.Test.YtopnhnnfobbocaaDoorSort
import Derived.KernelRfl
namespace Go.Gw
open Go Go.Proofs
set_option linter.unusedSimpArgs false
set_option linter.unusedVariables false
set_option maxRecDepth 100000
def ir30 : Ir :=
  (.seq
  (.reg [] [o 1 (.box 2 (tt 0)),
    o 2 (.alloc [(.slice none 0 0), (.slice none 0 0)])])
  (.seq
  (.seq
  (.reg [4, 5] [o 4 (.load true 2 (tt 1)),
    o 5 (.call 37 [(tt 4)]),
    o 6 (.un .not (tt 5))])
  (.cond (tt 6)
   (.seq
   (.reg [7] [o 7 (.build [(.slice none 0 0), (.slice none 0 0)] []),
     on (.store 2 (tt 2) (tt 7))])
   .ret)
   .skip))
  (.seq
  (.reg [8, 9] [o 8 (.load true 2 (tt 1)),
    o 9 (.call 76 [(tt 8)]),
    o 3 (.alloc [(.slice none 0 0), (.slice none 0 0)]),
    on (.store 2 (tt 3) (tt 9))])
  (.seq
  (.reg [10, 11, 12] [o 10 (.fadr 1 (tt 3)),
    o 11 (.load false 1 (tt 10)),
    o 12 (.call 88 [(tt 11), (.func 89)])])
  (.seq
  (.reg [13] [o 13 (.load true 2 (tt 3)),
    on (.store 2 (tt 2) (tt 13))])
  .ret)))))
def keep30 : List Nat := [0, 1, 2, 3, 6]
def res30 : List RI := [.cell true 2 2]
theorem chk30 : chk Tryd.prog 30 1 keep30 = some (ir30, res30) := by kernel_rfl
theorem ev_imSR : ∀ (n : Nat) (f : Nat → ByteArray) (m : Nat) (w : Nat → Nat) (h : Nat → Nat → Int), ev G0 res30 [] (3000 : Nat) (Or.call [] (AB (tableB n f m w h)) [] (Or.nil.split (Or.call [] taR (taH n f m w h) (Or.call [(2009 : Nat)] (AV.tp []) [((0 : Nat), Ob.row Mode.u false (1 : Nat) m (RR (wL (srtA m w h)) (hL (srtA m w h))) [])] Or.nil)))) [Item.ir ir30] (start [TA false false n f m w h] []) = VC.call (37 : Nat) [AV.ag [AV.p false (PV.sl false (1 : Nat) n fun (i x : Nat) => PT (f i)), AV.p false (PV.sl false (1 : Nat) m (RR w h))]] [] (AB (tableB n f m w h)) [] (VC.split (!tableB n f m w h) (VC.done (St.mk [((0 : Nat), AV.ag [AV.p false (PV.sl false (1 : Nat) n fun (i x : Nat) => PT (f i)), AV.p false (PV.sl false (1 : Nat) m (RR w h))]), ((1 : Nat), AV.adr (1 : Nat) (0 : Nat)), ((2 : Nat), AV.adr (2 : Nat) (0 : Nat)), ((6 : Nat), AV.p true (PV.v (Value.bool !tableB n f m w h)))] [((1 : Nat), Ob.box [AV.p false (PV.sl false (1 : Nat) n fun (i x : Nat) => PT (f i)), AV.p false (PV.sl false (1 : Nat) m (RR w h))]), ((2 : Nat), Ob.box [AV.p true (PV.v (Value.slice none (0 : Nat) (0 : Nat))), AV.p true (PV.v (Value.slice none (0 : Nat) (0 : Nat)))])])) (VC.call (76 : Nat) [AV.ag [AV.p false (PV.sl false (1 : Nat) n fun (i x : Nat) => PT (f i)), AV.p false (PV.sl false (1 : Nat) m (RR w h))]] [] taR (taH n f m w h) (VC.call (88 : Nat) [AV.own (0 : Nat), AV.cl (89 : Nat) [] []] [((0 : Nat), Ob.row Mode.u false (1 : Nat) m (RR w h) [])] (AV.tp []) [((0 : Nat), Ob.row Mode.u false (1 : Nat) m (RR (wL (srtA m w h)) (hL (srtA m w h))) [])] (VC.done (St.mk [((0 : Nat), AV.ag [AV.p false (PV.sl false (1 : Nat) n fun (i x : Nat) => PT (f i)), AV.p false (PV.sl false (1 : Nat) m (RR w h))]), ((1 : Nat), AV.adr (1 : Nat) (0 : Nat)), ((2 : Nat), AV.adr (2 : Nat) (0 : Nat)), ((6 : Nat), AV.p true (PV.v (Value.bool !tableB n f m w h))), ((3 : Nat), AV.adr (3 : Nat) (0 : Nat))] [((1 : Nat), Ob.box [AV.p false (PV.sl false (1 : Nat) n fun (i x : Nat) => PT (f i)), AV.p false (PV.sl false (1 : Nat) m (RR w h))]), ((2 : Nat), Ob.box [AV.own (1009 : Nat), AV.own (2009 : Nat)]), ((1009 : Nat), Ob.row Mode.u false (1 : Nat) n (TR f) []), ((2009 : Nat), Ob.row Mode.u false (1 : Nat) m (RR (wL (srtA m w h)) (hL (srtA m w h))) []), ((3 : Nat), Ob.box [AV.own (1009 : Nat), AV.own (2009 : Nat)])]))))) := by intros; kernel_rfl
abbrev FR (w : Nat) (h : Nat → Int) : AV := .p true (.sl false 1 w fun j _ => PI (h j))
/-! ### insertion -/
/-! ### SortRows -/
def srN (n : Nat) (f : Nat → ByteArray) (m : Nat) (w : Nat → Nat) (h : Nat → Nat → Int) : Nat := if tableB n f m w h then n else 0
def srM (n : Nat) (f : Nat → ByteArray) (m : Nat) (w : Nat → Nat) (h : Nat → Nat → Int) : Nat := if tableB n f m w h then m else 0
abbrev srH (n : Nat) (f : Nat → ByteArray) (m : Nat) (w : Nat → Nat) (h : Nat → Nat → Int) : List (Nat × Ob) := taH (srN n f m w h) f (srM n f m w h) (wL (srtA m w h)) (hL (srtA m w h))
structure TaOk (n : Nat) (f : Nat → ByteArray) (m : Nat) (w : Nat → Nat) : Prop where
  hn : n ≤ 1048576
  hf : ∀ i, i < n → (f i).size ≤ 1048576
  hm : m ≤ 1048576
  hw : ∀ i, i < m → w i ≤ 1048576
theorem c_imSR (n : Nat) (f : Nat → ByteArray) (m : Nat) (w : Nat → Nat) (h : Nat → Nat → Int) (ok : TaOk n f m w) : PObj Tryd.prog G0 30 [TA false false n f m w h] [] taR (srH n f m w h) := by
  refine PObj.by chk30 rfl (ev_imSR n f m w h) ?_
  simp only [VC.holds_split, VC.holds_need, VC.holds_doneP, VC.holds_done, VC.holds_either, VC.holds_call, VC.holds_callE, VC.holds_lend, VC.holds_stop, VC.holds_fail, decide_eq_true_eq, decide_eq_false_iff_not]
  refine ⟨c_imTV _ _ _ _ _ _ _ ok.hn ok.hf ok.hm ok.hw, fun h1 => ?_, fun h1 => ⟨c_clA _ _ _ _ _ ok.hn ok.hm ok.hw, c_sortA _ _ _ _ ok.hm ok.hw, ?_⟩⟩
  · have e : tableB n f m w h = false := by simpa using h1
    simp only [srH, srN, srM, e]
    refine ResOk.mk [] [] [0, 1] _ _ ?_ ⟨rfl, rfl⟩
    simp [doneC, resOf, resAV, tup, pinR, PV.Le_self, hbs, St.lowers, St.lower, stLe, leEnv, leObs, obLe, injB, pinC, AV.leC, AV.leCs, PV.leC, PV.Le_v, St.get, St.obj, look, rho, isNew, keptC, renH, Mode.ok, Mode.isZ, PV.isVal, PV.isNilSl, List.all_nil, List.all_cons, List.any_nil, List.any_cons, List.map_nil, List.map_cons, res30]
  · have e : tableB n f m w h = true := by simpa using h1
    simp only [srH, srN, srM, e]
    refine ResOk.mk [] [(0, 1009), (1, 2009)] [] _ _ ?_ ⟨rfl, rfl⟩
    simp [doneC, resOf, resAV, tup, pinR, PV.Le_self, hbs, St.lowers, St.lower, stLe, leEnv, leObs, obLe, injB, pinC, AV.leC, AV.leCs, PV.leC, PV.Le_v, St.get, St.obj, look, rho, isNew, keptC, renH, Mode.ok, Mode.isZ, PV.isVal, PV.isNilSl, List.all_nil, List.all_cons, List.any_nil, List.any_cons, List.map_nil, List.map_cons, res30]
end Go.Gw
