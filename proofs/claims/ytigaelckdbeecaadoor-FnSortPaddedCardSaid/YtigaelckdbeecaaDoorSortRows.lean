/- SortRows, of the program and of the model; with no condition. -/
import Derived.Test.YtigaelckdbeecaaDoorSort
import Derived.KernelRfl
namespace Go.Gw
open Go Go.Proofs
set_option linter.unusedSimpArgs false
set_option linter.unusedVariables false
set_option maxRecDepth 100000
def ir11 : Ir :=
  (.seq
  (.reg [] [o 1 (.box 2 (tt 0)),
    o 2 (.alloc [(.slice none 0 0), (.slice none 0 0)])])
  (.seq
  (.seq
  (.reg [4, 5] [o 4 (.load true 2 (tt 1)),
    o 5 (.call 37 [(tt 4)]),
    o 6 (.un .not (tt 5))])
  (.cond (tt 6)
   (.seq
   (.reg [7] [o 7 (.build [(.slice none 0 0), (.slice none 0 0)] []),
     on (.store 2 (tt 2) (tt 7))])
   .ret)
   .skip))
  (.seq
  (.reg [8, 9] [o 8 (.load true 2 (tt 1)),
    o 9 (.call 38 [(tt 8)]),
    o 3 (.alloc [(.slice none 0 0), (.slice none 0 0)]),
    on (.store 2 (tt 3) (tt 9))])
  (.seq
  (.reg [10, 11, 12] [o 10 (.fadr 1 (tt 3)),
    o 11 (.load false 1 (tt 10)),
    o 12 (.call 39 [(tt 11), (.func 40)])])
  (.seq
  (.reg [13] [o 13 (.load true 2 (tt 3)),
    on (.store 2 (tt 2) (tt 13))])
  .ret)))))
def keep11 : List Nat := [0, 1, 2, 3, 6]
def res11 : List RI := [.cell true 2 2]
theorem chk11 : chk Tryd.prog 11 1 keep11 = some (ir11, res11) := by kernel_rfl

theorem ev_imSR : ∀ (n : Nat) (f : Nat → ByteArray) (m : Nat) (w : Nat → Nat) (h : Nat → Nat → Int), ev G0 res11 [] (3000 : Nat) (Or.call [] (AB (tableB n f m w h)) [] (Or.nil.split (Or.call [] taR (taH n f m w h) (Or.call [(2009 : Nat)] (AV.tp []) [((0 : Nat), Ob.row Mode.u false (1 : Nat) m (RR (wL (srtA m w h)) (hL (srtA m w h))) [])] Or.nil)))) [Item.ir ir11] (start [TA false false n f m w h] []) = VC.call (37 : Nat) [AV.ag [AV.p false (PV.sl false (1 : Nat) n fun (i x : Nat) => PT (f i)), AV.p false (PV.sl false (1 : Nat) m (RR w h))]] [] (AB (tableB n f m w h)) [] (VC.split (!tableB n f m w h) (VC.done (St.mk [((0 : Nat), AV.ag [AV.p false (PV.sl false (1 : Nat) n fun (i x : Nat) => PT (f i)), AV.p false (PV.sl false (1 : Nat) m (RR w h))]), ((1 : Nat), AV.adr (1 : Nat) (0 : Nat)), ((2 : Nat), AV.adr (2 : Nat) (0 : Nat)), ((6 : Nat), AV.p true (PV.v (Value.bool !tableB n f m w h)))] [((1 : Nat), Ob.box [AV.p false (PV.sl false (1 : Nat) n fun (i x : Nat) => PT (f i)), AV.p false (PV.sl false (1 : Nat) m (RR w h))]), ((2 : Nat), Ob.box [AV.p true (PV.v (Value.slice none (0 : Nat) (0 : Nat))), AV.p true (PV.v (Value.slice none (0 : Nat) (0 : Nat)))])])) (VC.call (38 : Nat) [AV.ag [AV.p false (PV.sl false (1 : Nat) n fun (i x : Nat) => PT (f i)), AV.p false (PV.sl false (1 : Nat) m (RR w h))]] [] taR (taH n f m w h) (VC.call (39 : Nat) [AV.own (0 : Nat), AV.cl (40 : Nat) [] []] [((0 : Nat), Ob.row Mode.u false (1 : Nat) m (RR w h) [])] (AV.tp []) [((0 : Nat), Ob.row Mode.u false (1 : Nat) m (RR (wL (srtA m w h)) (hL (srtA m w h))) [])] (VC.done (St.mk [((0 : Nat), AV.ag [AV.p false (PV.sl false (1 : Nat) n fun (i x : Nat) => PT (f i)), AV.p false (PV.sl false (1 : Nat) m (RR w h))]), ((1 : Nat), AV.adr (1 : Nat) (0 : Nat)), ((2 : Nat), AV.adr (2 : Nat) (0 : Nat)), ((6 : Nat), AV.p true (PV.v (Value.bool !tableB n f m w h))), ((3 : Nat), AV.adr (3 : Nat) (0 : Nat))] [((1 : Nat), Ob.box [AV.p false (PV.sl false (1 : Nat) n fun (i x : Nat) => PT (f i)), AV.p false (PV.sl false (1 : Nat) m (RR w h))]), ((2 : Nat), Ob.box [AV.own (1009 : Nat), AV.own (2009 : Nat)]), ((1009 : Nat), Ob.row Mode.u false (1 : Nat) n (TR f) []), ((2009 : Nat), Ob.row Mode.u false (1 : Nat) m (RR (wL (srtA m w h)) (hL (srtA m w h))) []), ((3 : Nat), Ob.box [AV.own (1009 : Nat), AV.own (2009 : Nat)])]))))) := by intros; kernel_rfl
/-! ### insertion -/
theorem rowL_hL (S : List (List Int)) (i : Nat) : rowL (wL S i) (hL S i) 0 = S.getD i [] := by
  apply List.ext_getElem
  · rw [rowL_len]; rfl
  · intro j h1 h2
    have hj : j < wL S i := by rw [rowL_len] at h1; exact h1
    have := rowL_get (n := wL S i) (f := hL S i) hj
    rw [List.getD_eq_getElem?_getD, List.getElem?_eq_getElem h1] at this
    simp only [Option.getD_some] at this
    rw [this]
    simp only [hL]
    rw [List.getD_eq_getElem?_getD (l := S.getD i []), List.getElem?_eq_getElem h2]
    rfl
/-! ### SortRows -/
def srN (n : Nat) (f : Nat → ByteArray) (m : Nat) (w : Nat → Nat) (h : Nat → Nat → Int) : Nat := if tableB n f m w h then n else 0
def srM (n : Nat) (f : Nat → ByteArray) (m : Nat) (w : Nat → Nat) (h : Nat → Nat → Int) : Nat := if tableB n f m w h then m else 0
abbrev srH (n : Nat) (f : Nat → ByteArray) (m : Nat) (w : Nat → Nat) (h : Nat → Nat → Int) : List (Nat × Ob) := taH (srN n f m w h) f (srM n f m w h) (wL (srtA m w h)) (hL (srtA m w h))
theorem c_imSR (n : Nat) (f : Nat → ByteArray) (m : Nat) (w : Nat → Nat) (h : Nat → Nat → Int) (ok : TaOk n f m w) : PObj Tryd.prog G0 11 [TA false false n f m w h] [] taR (srH n f m w h) := by
  refine PObj.by chk11 rfl (ev_imSR n f m w h) ?_
  simp only [VC.holds_split, VC.holds_need, VC.holds_doneP, VC.holds_done, VC.holds_either, VC.holds_call, VC.holds_callE, VC.holds_lend, VC.holds_stop, VC.holds_fail, decide_eq_true_eq, decide_eq_false_iff_not]
  refine ⟨c_imTV _ _ _ _ _ _ _ ok.hn ok.hf ok.hm ok.hw, fun h1 => ?_, fun h1 => ⟨c_clA _ _ _ _ _ ok.hn ok.hm ok.hw, c_sortA _ _ _ _ ok.hm ok.hw, ?_⟩⟩
  · have e : tableB n f m w h = false := by simpa using h1
    simp only [srH, srN, srM, e]
    refine ResOk.mk [] [] [0, 1] _ _ ?_ ⟨rfl, rfl⟩
    simp [doneC, resOf, resAV, tup, pinR, PV.Le_self, hbs, St.lowers, St.lower, stLe, leEnv, leObs, obLe, injB, pinC, AV.leC, AV.leCs, PV.leC, PV.Le_v, St.get, St.obj, look, rho, isNew, keptC, renH, Mode.ok, Mode.isZ, PV.isVal, PV.isNilSl, List.all_nil, List.all_cons, List.any_nil, List.any_cons, List.map_nil, List.map_cons, res11]
  · have e : tableB n f m w h = true := by simpa using h1
    simp only [srH, srN, srM, e]
    refine ResOk.mk [] [(0, 1009), (1, 2009)] [] _ _ ?_ ⟨rfl, rfl⟩
    simp [doneC, resOf, resAV, tup, pinR, PV.Le_self, hbs, St.lowers, St.lower, stLe, leEnv, leObs, obLe, injB, pinC, AV.leC, AV.leCs, PV.leC, PV.Le_v, St.get, St.obj, look, rho, isNew, keptC, renH, Mode.ok, Mode.isZ, PV.isVal, PV.isNilSl, List.all_nil, List.all_cons, List.any_nil, List.any_cons, List.map_nil, List.map_cons, res11]
end Go.Gw

namespace Go.Gw
open Go Go.Proofs
set_option linter.unusedSimpArgs false
set_option linter.unusedVariables false
set_option maxRecDepth 100000

structure SrB (n : Nat) (f : Nat → ByteArray) (m : Nat) (w : Nat → Nat) (h : Nat → Nat → Int) : Prop where
  hn : srN n f m w h ≤ 1048576
  hm : srM n f m w h ≤ 1048576
  hs : sumN (wL (srtA m w h)) (srM n f m w h) ≤ 1048576
  hw : ∀ i, i < srM n f m w h → wL (srtA m w h) i ≤ 1048576
end Go.Gw

namespace Go.Gw
open Go Go.Proofs
set_option linter.unusedSimpArgs false
set_option linter.unusedVariables false
set_option maxRecDepth 100000

def sameT (n : Nat) (f : Nat → ByteArray) (m : Nat) (g : Nat → ByteArray) : Bool := decide (n = m) && allB (fun i => (f i).toList == (g i).toList) n
def sameR (m : Nat) (w : Nat → Nat) (h : Nat → Nat → Int) (m' : Nat) (w' : Nat → Nat) (h' : Nat → Nat → Int) : Bool := decide (m = m') && allB (fun i => rowL (w i) (h i) 0 == rowL (w' i) (h' i) 0) m
def sameV (n : Nat) (f : Nat → Int) (m : Nat) (g : Nat → Int) : Bool := decide (n = m) && allB (fun i => f i == g i) n
theorem sameV_eq (n : Nat) (f : Nat → Int) (m : Nat) (g : Nat → Int) : sameV n f m g = (rowL n f 0 == rowL m g 0) := by
  rw [Bool.eq_iff_iff]
  simp only [sameV, Bool.and_eq_true, decide_eq_true_eq, allB_iff, beq_iff_eq]
  constructor
  · rintro ⟨rfl, h⟩; exact rowL_congr h
  · intro h
    have h1 : n = m := by have := congrArg List.length h; simpa [rowL_len] using this
    subst h1
    refine ⟨rfl, fun i hi => ?_⟩
    rw [← rowL_get (f := f) hi, h, rowL_get hi]
/-! ### SameBag -/
end Go.Gw
