/- Small functions on whole numbers and rows of them; with no condition. -/
import Derived.Test.YtbaafpfappfkjaaDoorGw31
import Derived.IntWalk
import Derived.KernelRfl
import Derived.Test.YtbaafpfappfkjaaDoorProg
namespace Go.Gw
open Go Go.Proofs
set_option linter.unusedSimpArgs false
set_option linter.unusedVariables false
set_option maxRecDepth 100000
abbrev reservedW : List ByteArray := [⟨#[115, 101, 108, 101, 99, 116]⟩, ⟨#[102, 114, 111, 109]⟩, ⟨#[106, 111, 105, 110]⟩, ⟨#[111, 110]⟩, ⟨#[119, 104, 101, 114, 101]⟩, ⟨#[97, 110, 100]⟩, ⟨#[111, 114]⟩, ⟨#[103, 114, 111, 117, 112]⟩, ⟨#[98, 121]⟩, ⟨#[115, 117, 109]⟩, ⟨#[111, 114, 100, 101, 114]⟩, ⟨#[100, 111, 119, 110]⟩, ⟨#[108, 105, 109, 105, 116]⟩]
abbrev G0 : List (Nat × PV) := [(0, .pp 1 fun _ => strRow reservedW)]
def ir47 : Ir :=
  (.seq
  (.reg [] [o 6 (.mov (cb false))])
  (.seq
  (.reg [7, 8, 9, 10, 11, 12, 13, 14] [o 7 (.mov (tt 1)),
    o 8 (.mov (tt 0)),
    o 9 (.bin .leq (tt 7) (tt 8)),
    o 10 (.mov (tt 9)),
    og 11 10 true (.mov (tt 0)),
    og 12 10 true (.mov (tt 2)),
    og 13 10 true (.bin .leq (tt 11) (tt 12)),
    o 14 (.pick (tt 10) (tt 13) (cb false)),
    o 6 (.mov (tt 14))])
  .ret))
def keep47 : List Nat := [0, 1, 2, 6]
def res47 : List RI := [.tmp 6]
theorem chk47 : chk Tryd.prog 47 3 keep47 = some (ir47, res47) := by kernel_rfl
def ir44 : Ir :=
  (.seq
  (.reg [] [o 6 (.mov (cb false))])
  (.seq
  (.reg [7, 8, 9, 10, 11, 12, 13, 14] [o 7 (.mov (tt 0)),
    o 8 (.mov (tt 1)),
    o 9 (.bin .geq (tt 7) (tt 8)),
    o 10 (.mov (tt 9)),
    og 11 10 true (.mov (tt 0)),
    og 12 10 true (.mov (tt 2)),
    og 13 10 true (.bin .leq (tt 11) (tt 12)),
    o 14 (.pick (tt 10) (tt 13) (cb false)),
    o 6 (.mov (tt 14))])
  .ret))
def keep44 : List Nat := [0, 1, 2, 6]
def res44 : List RI := [.tmp 6]
theorem chk44 : chk Tryd.prog 44 3 keep44 = some (ir44, res44) := by kernel_rfl

abbrev W (n : Int) : Int := IntKind.i64.wrap n
theorem wrap_in {n : Int} (h1 : -9223372036854775808 ≤ n) (h2 : n ≤ 9223372036854775807) : W n = n := IntWalk.i64_in n (by omega)

/-! ### in -/
def inB (x lo hi : Int) : Bool := decide (lo ≤ x) && decide (x ≤ hi)
theorem inB_iff {x lo hi : Int} : inB x lo hi = true ↔ lo ≤ x ∧ x ≤ hi := by simp [inB]
def in_in (x lo hi : Int) := (G0, res47, ([] : List (Nat × Ob)), [Item.ir ir47], start [AI x, AI lo, AI hi] [])
theorem ev_in : ∀ (x lo hi : Int),
  ev G0 res47 [] (3000 : Nat) (Or.nil.lit.lit.lit.split Or.nil.lit.lit.lit) [Item.ir ir47]
      (start [AI x, AI lo, AI hi] []) =
    VC.split (decide (lo ≤ x)) (VC.doneP (AV.p true (PV.v (Value.bool (decide (x ≤ hi))))))
      (VC.doneP (AV.p true (PV.v (Value.bool false)))) := by
  intros; kernel_rfl
theorem c_in (x lo hi : Int) : PRet Tryd.prog G0 47 [AI x, AI lo, AI hi] (AB (inB x lo hi)) := by
  refine PRet.by chk47 (ev_in x lo hi) ?_
  simp only [VC.holds_split, VC.holds_need, VC.holds_doneP, VC.holds_done, VC.holds_either, VC.holds_call, VC.holds_callE, VC.holds_lend, VC.holds_stop, VC.holds_fail, decide_eq_true_eq, decide_eq_false_iff_not]
  simp +contextual [inB]
  try omega
def in_l1In (x lo hi : Int) := (G0, res44, ([] : List (Nat × Ob)), [Item.ir ir44], start [AI x, AI lo, AI hi] [])
theorem ev_l1In : ∀ (x lo hi : Int),
  ev G0 res44 [] (3000 : Nat) (Or.nil.lit.lit.lit.split Or.nil.lit.lit.lit) [Item.ir ir44]
      (start [AI x, AI lo, AI hi] []) =
    VC.split (decide (lo ≤ x)) (VC.doneP (AV.p true (PV.v (Value.bool (decide (x ≤ hi))))))
      (VC.doneP (AV.p true (PV.v (Value.bool false)))) := by
  intros; kernel_rfl
theorem c_l1In (x lo hi : Int) : PRet Tryd.prog G0 44 [AI x, AI lo, AI hi] (AB (inB x lo hi)) := by
  refine PRet.by chk44 (ev_l1In x lo hi) ?_
  simp only [VC.holds_split, VC.holds_need, VC.holds_doneP, VC.holds_done, VC.holds_either, VC.holds_call, VC.holds_callE, VC.holds_lend, VC.holds_stop, VC.holds_fail, decide_eq_true_eq, decide_eq_false_iff_not]
  simp +contextual [inB]
  try omega

end Go.Gw
