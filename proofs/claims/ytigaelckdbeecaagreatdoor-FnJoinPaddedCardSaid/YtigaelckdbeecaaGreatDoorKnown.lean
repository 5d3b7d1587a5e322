/- What is known of the words that are no names; with no condition. -/
import Derived.Test.YtigaelckdbeecaaGreatDoorInts
import Derived.Test.YtigaelckdbeecaaGreatDoorCards
import Derived.Test.YtigaelckdbeecaaGreatDoorTie
import Derived.WalkKit
import Derived.ProofKit
import Derived.LaidMore
import Derived.LaidHandle
import Derived.MakeChecks
namespace Go.Proofs.YtigaelckdbeecaaGreatDoor
open Go Go.ChangeShapes Go.WideShapes Go.ChangeAt Go.RowKit
set_option linter.unusedVariables false
set_option linter.unusedSimpArgs false
abbrev wordsName : String := "loop.example/obliviousqueries/impl.reserved"
abbrev words : List (String × DataW Unit) := [(wordsName, Rows.laid_loop_example_obliviousqueries_impl_reserved)]
theorem gWords : Tryz.prog.globalNamed wordsName = some 0 := by kernel_rfl
theorem gWordsType : (Tryz.prog.globals[0]?).map (·.type) = some 23 := by kernel_rfl
theorem cellsWord : Tryz.prog.cellsOf 9 = 1 := by kernel_rfl
theorem wordsData : (Rows.laid_loop_example_obliviousqueries_impl_reserved : DataW Unit) = .slice (Go.Gw.reservedW.map fun s => .lit (.string s.data.toList)) [] := by kernel_rfl
theorem known {W : World} (h : laidMetH Tryz.prog words W) : ∀ g c, Go.Gw.look Go.Gw.G0 g = some c → Go.Gw.RepP (fun _ => True) W c (.pointer (some ⟨g, 0, none⟩)) := by
  rw [MakeChecks.laidMetH_plain _ _ _ (by kernel_rfl)] at h
  obtain ⟨ps, ⟨g0, t0, cs0, f0, p0, q0, hg0, ht0, hv0, hd0, _, _⟩, _, _⟩ := h
  obtain rfl := Option.some.inj (gWords.symm.trans hg0)
  obtain rfl := Option.some.inj (gWordsType.symm.trans ht0)
  rw [wordsData] at hd0
  obtain ⟨v, hcs, hv⟩ := Go.Gw.strs_of_trod (by decide) Tryz.underlying23 Tryz.underlying9 cellsWord hd0
  have hcell : W.cell? ⟨0, 0, none⟩ = some v := by
    have := World.var?_cell hg0 hv0 0
    rw [Array.eq_one_of_toList hcs] at this
    simpa using this
  intro g c hg
  simp only [Go.Gw.G0, Go.Gw.look] at hg
  split at hg
  · rename_i e
    subst e
    cases hg
    refine .pp 1 _ 0 0 (fun _ => v) (fun j hj => ?_) (fun j hj => hv) (fun _ _ => trivial)
    obtain rfl : j = 0 := by omega
    exact hcell
  · cases hg
theorem own : ownKnob Tryz.prog.godebug = none := by kernel_rfl
theorem laidOut : laidOutB Tryz.prog = true := by kernel_rfl
theorem varsRead : ∀ n, n ∈ [wordsName] → ∀ g gl, Tryz.prog.globalNamed n = some g → Tryz.prog.globals[g]? = some gl → Tryz.prog.readableRec gl.type = true ∧ gl.type < Tryz.prog.types.size := by
  intro n hn g gl h1 h2
  obtain rfl := List.mem_singleton.1 hn
  obtain rfl := Option.some.inj (gWords.symm.trans h1)
  have ht := gWordsType
  rw [h2] at ht
  have e : gl.type = 23 := Option.some.inj ht
  rw [e]
  exact ⟨by kernel_rfl, of_decide_eq_true (by kernel_rfl)⟩
theorem doorMet (os : Os) (args : Array Value) : laidMetH Tryz.prog words ((World.doorLaid Tryz.prog 14 os).forCall (fun _ _ => 0) ⟨#[], args, []⟩).memory :=
  laidMetH_of_parts3 (fuel := 8) (laidMet_of_run' 8 (by kernel_rfl) (by kernel_rfl)) (by kernel_rfl) (by kernel_rfl)
end Go.Proofs.YtigaelckdbeecaaGreatDoor
