/- Sorted rows are the rows: the law FnSortRows; with no condition. -/
import Derived.Test.YtopnhnnfobbocaaDoorBagFacts
import Derived.Test.YtopnhnnfobbocaaDoorDrawTab3
import Derived.Test.YtopnhnnfobbocaaDoorSameTab
import Derived.KernelRfl
namespace Go.Gw
open Go Go.Proofs
set_option linter.unusedSimpArgs false
set_option linter.unusedVariables false
set_option maxRecDepth 100000
structure DsOk (d : DT) : Prop where
  ok : TaOk d.n d.f d.m d.w
  hn : d.n ≤ 10
  hm : d.m ≤ 100
  hw : ∀ i, i < d.m → d.w i ≤ 10
theorem DtOk.ds {p : Nat} {d : DT} (h : DtOk p d) : DsOk d :=
  ⟨⟨by have := h.hn; omega, fun i hi => by have := h.hf i hi; omega, by have := h.hm; omega, fun i hi => by have := h.hw i hi; omega⟩, by have := h.hn; omega, by have := h.hm; omega, fun i hi => by have := h.hw i hi; omega⟩
abbrev dsH (d : DT) : List (Nat × Ob) := taH d.n d.f d.m d.w d.h
theorem perm_w {S : List (List Int)} {m : Nat} {w : Nat → Nat} {h : Nat → Nat → Int} {b : Nat} (hp : S.Perm (tabL m w h)) (hw : ∀ i, i < m → w i ≤ b) : ∀ i, i < m → wL S i ≤ b := fun i hi => by
  have hl : S.length = m := by rw [hp.length_eq, tabL_len]
  have h1 : S.getD i [] ∈ tabL m w h := by
    rw [List.getD_eq_getElem?_getD, List.getElem?_eq_getElem (by omega)]
    exact hp.mem_iff.1 (List.getElem_mem _)
  simp only [tabL, List.mem_map, List.mem_range] at h1
  obtain ⟨k, hk, he⟩ := h1
  have : wL S i = w k := by simp only [wL, ← he, rowL_len]
  rw [this]; exact hw k hk
end Go.Gw
