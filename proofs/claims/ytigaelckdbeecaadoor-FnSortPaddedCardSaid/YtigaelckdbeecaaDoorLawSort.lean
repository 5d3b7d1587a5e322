/- Sorted rows are the rows: the law FnSortRows; with no condition. -/
import Derived.Test.YtigaelckdbeecaaDoorSortFacts
import Derived.Test.YtigaelckdbeecaaDoorDrawTab3
import Derived.Test.YtigaelckdbeecaaDoorSameTab
import Derived.KernelRfl
namespace Go.Gw
open Go Go.Proofs
set_option linter.unusedSimpArgs false
set_option linter.unusedVariables false
set_option maxRecDepth 100000

structure DsOk (d : DT) : Prop where
  ok : TaOk d.n d.f d.m d.w
  hn : d.n ≤ 10
  hm : d.m ≤ 100
  hw : ∀ i, i < d.m → d.w i ≤ 10
theorem DtOk.ds {p : Nat} {d : DT} (h : DtOk p d) : DsOk d :=
  ⟨⟨by have := h.hn; omega, fun i hi => by have := h.hf i hi; omega, by have := h.hm; omega, fun i hi => by have := h.hw i hi; omega⟩, by have := h.hn; omega, by have := h.hm; omega, fun i hi => by have := h.hw i hi; omega⟩
end Go.Gw
