/- Texts in rows: copied, compared, written over, read again; with no condition. -/
import Derived.Test.YtigaelckdbeecaaGreatDoorInts
import Derived.KernelRfl
namespace Go.Gw
open Go Go.Proofs
set_option linter.unusedSimpArgs false
set_option linter.unusedVariables false
set_option maxRecDepth 100000
abbrev TR (f : Nat → ByteArray) : Nat → Nat → PV := fun i _ => PT (f i)
def sumN (w : Nat → Nat) : Nat → Nat
  | 0 => 0
  | k + 1 => sumN w k + w k
end Go.Gw
namespace Go.Gw
open Go Go.Proofs
set_option linter.unusedSimpArgs false
set_option linter.unusedVariables false
set_option maxRecDepth 100000
abbrev RR (w : Nat → Nat) (h : Nat → Nat → Int) : Nat → Nat → PV := fun i _ => .sl false 1 (w i) fun j _ => PI (h i j)
abbrev RL (nn : Bool) (m : Nat) (w : Nat → Nat) (h : Nat → Nat → Int) : AV := .p false (.sl nn 1 m (RR w h))
theorem RR_le {w w' : Nat → Nat} {h h' : Nat → Nat → Int} {i : Nat} (hw : w i = w' i) (hh : ∀ j, j < w i → h i j = h' i j) : PV.Le (RR w h i 0) (RR w' h' i 0) :=
  .sl _ _ (fun e => e) _ _ _ _ _ hw fun j k hj _ => by rw [hh j hj]; exact .refl _
end Go.Gw
