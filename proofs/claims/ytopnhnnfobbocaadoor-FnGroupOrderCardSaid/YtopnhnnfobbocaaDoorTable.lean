/- Tables: measured, copied, compared, written over, read again; with no condition. -/
import Derived.Test.YtopnhnnfobbocaaDoorTabV
import Derived.KernelRfl
namespace Go.Gw
open Go Go.Proofs
set_option linter.unusedSimpArgs false
set_option linter.unusedVariables false
set_option maxRecDepth 100000
def ir125 : Ir :=
  (.seq
  (.reg [] [o 2 (.mov (.const (.slice none 0 0)))])
  (.seq
  (.seq
  (.reg [3] [o 3 (.mov (tt 0)),
    o 4 (.isNil false (tt 3))])
  (.cond (tt 4)
   (.seq
   (.reg [] [o 2 (.mov (.const (.slice none 0 0)))])
   .ret)
   .skip))
  (.seq
  (.reg [5, 6, 7] [o 5 (.mkSl 1 0 [(.int .i64 0)] []),
    o 6 (.mov (tt 0)),
    o 7 (.app 1 8 true (tt 5) (tt 6)),
    o 2 (.mov (tt 7))])
  .ret)))
def keep125 : List Nat := [0, 2, 4]
def res125 : List RI := [.tmp 2]
theorem chk125 : chk Tryd.prog 125 1 keep125 = some (ir125, res125) := by kernel_rfl

abbrev taR : AV := .ag [.own 0, .own 1]
abbrev taH (n : Nat) (f : Nat → ByteArray) (m : Nat) (w : Nat → Nat) (h : Nat → Nat → Int) : List (Nat × Ob) := [(0, .row .u false 1 n (TR f) []), (1, .row .u false 1 m (RR w h) [])]
theorem allV_TR {n : Nat} {f : Nat → ByteArray} : allV 1 n (TR f) := fun _ _ _ _ => rfl
/-! ### copies -/
theorem ev_clI : ∀ (n : Nat) (f : Nat → Int), ev G0 res125 [] (3000 : Nat) (Or.nil.lit.split Or.nil.lit) [Item.ir ir125] (start [IL false n f] []) = VC.either (n = (0 : Nat)) (VC.done (St.mk [((0 : Nat), AV.p false (PV.sl false (1 : Nat) n fun (i x : Nat) => PI (f i))), ((2 : Nat), AV.p true (PV.v (Value.slice none (0 : Nat) (0 : Nat)))), ((4 : Nat), AV.p true (PV.v (Value.bool true)))] [])) (VC.need ((((0 : Nat) + n) * (8 : Nat) ≤ (140737488355328 : Nat) ∧ (↑((0 : Nat) + n) : Int) ≤ (9223372036854775807 : Int)) ∧ allV (1 : Nat) n fun (i x : Nat) => PI (f i)) (VC.done (St.mk [((0 : Nat), AV.p false (PV.sl false (1 : Nat) n fun (i x : Nat) => PI (f i))), ((2 : Nat), AV.own (7 : Nat)), ((4 : Nat), AV.p true (PV.v (Value.bool false)))] [((7 : Nat), Ob.row Mode.u true (1 : Nat) ((0 : Nat) + n) (fun (a b : Nat) => if a < (0 : Nat) then setG [] (fun (x j : Nat) => PV.v ([Value.int IntKind.i64 (0 : Int)].getD j undef)) a b else PI (f (a - (0 : Nat)))) [])]))) := by intros; kernel_rfl
end Go.Gw
