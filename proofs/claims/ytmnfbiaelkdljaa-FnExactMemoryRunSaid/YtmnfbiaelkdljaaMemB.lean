/- The ground that memories stand on; with no condition. -/
import Derived.Test.YtmnfbiaelkdljaaLedger
import Derived.KernelRfl
namespace Go.Gw
open Go Go.Proofs
set_option linter.unusedSimpArgs false
set_option linter.unusedVariables false
set_option maxRecDepth 100000
def ir67 : Ir :=
  (.seq
  (.reg [] [o 2 (.mov (cb false))])
  (.seq
  (.reg [3, 4] [o 3 (.mov (tt 0)),
    o 4 (.call 47 [(tt 3), (ci (-100000)), (ci 100000)]),
    o 2 (.mov (tt 4))])
  .ret))
def keep67 : List Nat := [0, 2]
def res67 : List RI := [.tmp 2]
theorem chk67 : chk Try.prog 67 1 keep67 = some (ir67, res67) := by kernel_rfl

def valB (x : Int) : Bool := inB x (-100000) 100000
def in_isValue (x : Int) := (G0, res67, ([] : List (Nat × Ob)), [Item.ir ir67], start [AI x] [])
theorem ev_isValue : ∀ (x : Int), ev G0 res67 [] (3000 : Nat) (Or.call [] (AB (inB x (-100000 : Int) (100000 : Int))) [] Or.nil) [Item.ir ir67] (start [AI x] []) = VC.call (47 : Nat) [AV.p true (PV.v (Value.int IntKind.i64 x)), AV.p true (PV.v (Value.int IntKind.i64 (-100000 : Int))), AV.p true (PV.v (Value.int IntKind.i64 (100000 : Int)))] [] (AB (inB x (-100000 : Int) (100000 : Int))) [] (VC.doneP (AV.p true (PV.v (Value.bool (inB x (-100000 : Int) (100000 : Int)))))) := by intros; kernel_rfl
theorem c_isValue (x : Int) : PRet Try.prog G0 67 [AI x] (AB (valB x)) := by
  refine PRet.by chk67 (ev_isValue x) ?_
  simp only [VC.holds_split, VC.holds_need, VC.holds_doneP, VC.holds_done, VC.holds_either, VC.holds_call, VC.holds_callE, VC.holds_lend, VC.holds_stop, VC.holds_fail, decide_eq_true_eq, decide_eq_false_iff_not]
  exact ⟨c_in _ _ _, by simp [valB]⟩
theorem allB_no {p : Nat → Bool} {n k : Nat} (hk : k < n) (h : p k = false) : allB p n = false := by
  cases h2 : allB p n with
  | false => rfl
  | true => rw [allB_iff.1 h2 k hk] at h; cases h
def sumN (w : Nat → Nat) : Nat → Nat
  | 0 => 0
  | k + 1 => sumN w k + w k
theorem sumN_le {w : Nat → Nat} : ∀ {n i : Nat}, i < n → w i ≤ sumN w n
  | n + 1, i, h => by
    by_cases h2 : i = n
    · subst h2; simp only [sumN]; omega
    · have := sumN_le (w := w) (n := n) (i := i) (by omega)
      simp only [sumN]; omega
theorem sumN_mono {w : Nat → Nat} : ∀ {n k : Nat}, k ≤ n → sumN w k ≤ sumN w n
  | 0, k, h => by
    obtain rfl : k = 0 := by omega
    exact Nat.le_refl _
  | n + 1, k, h => by
    by_cases h2 : k = n + 1
    · subst h2; exact Nat.le_refl _
    · have := sumN_mono (w := w) (n := n) (k := k) (by omega)
      simp only [sumN]; omega
end Go.Gw
