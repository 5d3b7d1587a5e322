/- The law FnExactMemoryRun holds of all its arguments: it returns true and leaves memory as it was; with no condition. -/
import Derived.Test.YtmnfbiaelkdljaaLawMemR
import Derived.Test.YtmnfbiaelkdljaaRows
import Derived.WalkKit
import Derived.ProofKit
namespace Go.Proofs.Ytmnfbiaelkdljaa.fnExactMemoryRun
open Go Go.ChangeShapes Go.WideShapes Go.RowKit
set_option linter.unusedVariables false
set_option linter.unusedSimpArgs false

theorem own : ownKnob Try.prog.godebug = none := by kernel_rfl
theorem laidOut : laidOutB Try.prog = true := by kernel_rfl
theorem readable : (Try.f10.params.toList.all fun t => Try.prog.readableRec t && decide (t < Try.prog.types.size)) = true := by kernel_rfl
theorem leafy : (Try.f10.params.toList.all fun t => (Go.Gw.leaves Try.prog 12 t).isSome) = true := by kernel_rfl

set_option maxRecDepth 100000 in
theorem lifted (os : Os) (started : os.Started) (H : Type) (enc : TypeId × Value → H) :
    ReturnsInHanded {} Try.checked os 10 .any (Rows.fnExactMemoryRunSpec.pre6 enc Try.prog Try.f10 Rows.fnExactMemoryRunRow.domain false) (Rows.fnExactMemoryRunSpec.post enc Try.prog Try.f10 false true false false) := by
  refine returnsInHanded_of_change (C := Try.checked) own started (by kernel_rfl) Try.func10
    (ChangeSpec.witness6 (enc := enc) (C := Try.checked) false ⟨#[], #[.agg #[.slice none 0 0, .slice none 0 0], .slice none 0 0], []⟩ 8 (by kernel_rfl) (by kernel_rfl) (by kernel_rfl) (by kernel_rfl)) ?_
  intro W base args ds gs before hval hW hcnd _
  refine Go.Gw.law_step (tb := 4) laidOut (fun t ht => ?_) (fun t ht => ?_) rfl rfl Try.underlying4 (fun ds h => ?_) (fun xs h => ?_) W base args ds gs before hval hW
  · have := List.all_eq_true.1 readable t ht
    simp only [Bool.and_eq_true, decide_eq_true_eq] at this
    exact this
  · have := List.all_eq_true.1 leafy t ht
    exact Option.isSome_iff_exists.1 this
  · match ds, h with
    | [d1, d2], _ => rfl
  · exact Go.Gw.law_FnExactMemoryRun xs h

theorem over : Rows.fnExactMemoryRunRow.holds Try.pinned (OpenSpec.ofChange Rows.fnExactMemoryRunSpec) :=
  OpenClaim.holds_of_wide 10 Try.f10 rfl rfl rfl rfl rfl rfl rfl ⟨rfl, rfl, rfl, rfl, rfl⟩ rfl rfl rfl rfl rfl (by kernel_rfl) Try.func10 (by kernel_rfl)
    (of_decide_eq_true (by kernel_rfl)) (by unfold Func.isWrapper; first | (rw [if_pos (by decide +kernel)]; kernel_rfl) | (rw [if_neg (by decide +kernel)]; exact ⟨rfl, rfl⟩))
    (fun os started H enc _ => lifted os started H enc)

/-- The statement. -/
theorem proved : Rows.FnExactMemoryRunSaid :=
  over
#print axioms proved
end Go.Proofs.Ytmnfbiaelkdljaa.fnExactMemoryRun
