/- The laws on SortRows alone; with no condition. -/
import Derived.Test.YtopnhnnfobbocaaDoorSortRows
import Derived.KernelRfl
namespace Go.Gw
open Go Go.Proofs
set_option linter.unusedSimpArgs false
set_option linter.unusedVariables false
set_option maxRecDepth 100000
structure SrB (n : Nat) (f : Nat → ByteArray) (m : Nat) (w : Nat → Nat) (h : Nat → Nat → Int) : Prop where
  hn : srN n f m w h ≤ 1048576
  hm : srM n f m w h ≤ 1048576
  hs : sumN (wL (srtA m w h)) (srM n f m w h) ≤ 1048576
  hw : ∀ i, i < srM n f m w h → wL (srtA m w h) i ≤ 1048576
end Go.Gw
