/- Small functions on whole numbers and rows of them; with no condition. -/
import Derived.Test.YtopnhnnfobbocaaDoorGw26
import Derived.IntWalk
import Derived.KernelRfl
import Derived.Test.YtopnhnnfobbocaaDoorProg
namespace Go.Gw
open Go Go.Proofs
set_option linter.unusedSimpArgs false
set_option linter.unusedVariables false
set_option maxRecDepth 100000
abbrev reservedW : List ByteArray := [⟨#[115, 101, 108, 101, 99, 116]⟩, ⟨#[102, 114, 111, 109]⟩, ⟨#[106, 111, 105, 110]⟩, ⟨#[111, 110]⟩, ⟨#[119, 104, 101, 114, 101]⟩, ⟨#[97, 110, 100]⟩, ⟨#[111, 114]⟩, ⟨#[103, 114, 111, 117, 112]⟩, ⟨#[98, 121]⟩, ⟨#[115, 117, 109]⟩, ⟨#[111, 114, 100, 101, 114]⟩, ⟨#[100, 111, 119, 110]⟩, ⟨#[108, 105, 109, 105, 116]⟩]
abbrev G0 : List (Nat × PV) := [(0, .pp 1 fun _ => strRow reservedW)]
def ir129 : Ir :=
  (.seq
  (.reg [] [o 6 (.mov (cb false))])
  (.seq
  (.reg [7, 8, 9, 10, 11, 12, 13, 14] [o 7 (.mov (tt 1)),
    o 8 (.mov (tt 0)),
    o 9 (.bin .leq (tt 7) (tt 8)),
    o 10 (.mov (tt 9)),
    og 11 10 true (.mov (tt 0)),
    og 12 10 true (.mov (tt 2)),
    og 13 10 true (.bin .leq (tt 11) (tt 12)),
    o 14 (.pick (tt 10) (tt 13) (cb false)),
    o 6 (.mov (tt 14))])
  .ret))
def keep129 : List Nat := [0, 1, 2, 6]
def res129 : List RI := [.tmp 6]
theorem chk129 : chk Tryd.prog 129 3 keep129 = some (ir129, res129) := by kernel_rfl
def ir64 : Ir :=
  (.seq
  (.reg [] [o 6 (.mov (cb false))])
  (.seq
  (.reg [7, 8, 9, 10, 11, 12, 13, 14] [o 7 (.mov (tt 0)),
    o 8 (.mov (tt 1)),
    o 9 (.bin .geq (tt 7) (tt 8)),
    o 10 (.mov (tt 9)),
    og 11 10 true (.mov (tt 0)),
    og 12 10 true (.mov (tt 2)),
    og 13 10 true (.bin .leq (tt 11) (tt 12)),
    o 14 (.pick (tt 10) (tt 13) (cb false)),
    o 6 (.mov (tt 14))])
  .ret))
def keep64 : List Nat := [0, 1, 2, 6]
def res64 : List RI := [.tmp 6]
theorem chk64 : chk Tryd.prog 64 3 keep64 = some (ir64, res64) := by kernel_rfl
abbrev W (n : Int) : Int := IntKind.i64.wrap n
theorem wrap_in {n : Int} (h1 : -9223372036854775808 ≤ n) (h2 : n ≤ 9223372036854775807) : W n = n := IntWalk.i64_in n (by omega)

/-! ### in -/
def inB (x lo hi : Int) : Bool := decide (lo ≤ x) && decide (x ≤ hi)
theorem inB_iff {x lo hi : Int} : inB x lo hi = true ↔ lo ≤ x ∧ x ≤ hi := by simp [inB]
theorem ev_in : ∀ (x lo hi : Int), ev G0 res129 [] (3000 : Nat) (Or.nil.lit.lit.lit.split Or.nil.lit.lit.lit) [Item.ir ir129] (start [AI x, AI lo, AI hi] []) = VC.split (decide (lo ≤ x)) (VC.doneP (AV.p true (PV.v (Value.bool (decide (x ≤ hi)))))) (VC.doneP (AV.p true (PV.v (Value.bool false)))) := by intros; kernel_rfl
theorem c_in (x lo hi : Int) : PRet Tryd.prog G0 129 [AI x, AI lo, AI hi] (AB (inB x lo hi)) := by
  refine PRet.by chk129 (ev_in x lo hi) ?_
  simp only [VC.holds_split, VC.holds_need, VC.holds_doneP, VC.holds_done, VC.holds_either, VC.holds_call, VC.holds_callE, VC.holds_lend, VC.holds_stop, VC.holds_fail, decide_eq_true_eq, decide_eq_false_iff_not]
  simp +contextual [inB]
  try omega
theorem ev_l1In : ∀ (x lo hi : Int), ev G0 res64 [] (3000 : Nat) (Or.nil.lit.lit.lit.split Or.nil.lit.lit.lit) [Item.ir ir64] (start [AI x, AI lo, AI hi] []) = VC.split (decide (lo ≤ x)) (VC.doneP (AV.p true (PV.v (Value.bool (decide (x ≤ hi)))))) (VC.doneP (AV.p true (PV.v (Value.bool false)))) := by intros; kernel_rfl
theorem c_l1In (x lo hi : Int) : PRet Tryd.prog G0 64 [AI x, AI lo, AI hi] (AB (inB x lo hi)) := by
  refine PRet.by chk64 (ev_l1In x lo hi) ?_
  simp only [VC.holds_split, VC.holds_need, VC.holds_doneP, VC.holds_done, VC.holds_either, VC.holds_call, VC.holds_callE, VC.holds_lend, VC.holds_stop, VC.holds_fail, decide_eq_true_eq, decide_eq_false_iff_not]
  simp +contextual [inB]
  try omega

/-! ### szIntS -/
/-! ### toIntS -/
end Go.Gw
