/- The law FnSortPadded holds of all its arguments, where the words that are no names are those of the program's text: it returns true and leaves memory as it was. -/
import Derived.Test.YtigaelckdbeecaaDoorKnown
import Derived.Test.YtigaelckdbeecaaDoorLawPad
import Derived.Test.YtigaelckdbeecaaDoorChecked
namespace Go.Proofs.YtigaelckdbeecaaDoor.fnSortPadded
open Go Go.ChangeShapes Go.WideShapes Go.ChangeAt Go.RowKit
set_option linter.unusedVariables false
set_option linter.unusedSimpArgs false

theorem readable : (Tryd.f3.params.toList.all fun t => Tryd.prog.readableRec t && decide (t < Tryd.prog.types.size)) = true := by kernel_rfl
theorem leafy : (Tryd.f3.params.toList.all fun t => (Go.Gw.leaves Tryd.prog 12 t).isSome) = true := by kernel_rfl

set_option maxRecDepth 100000 in
theorem lifted (os : Os) (started : os.Started) (H : Type) (enc : TypeId × Value → H) :
    ReturnsInHanded {} Tryd.checked os 3 .any (fun w args => (Rows.fnSortPaddedSpec.pre enc Tryd.prog Tryd.f3 [] false w args ∧ laidMetH Tryd.prog words w) ∧ sizedMet enc Tryd.prog Tryd.f3 (OpenSpec.ofChange Rows.fnSortPaddedSpec) false w args)
      (Rows.fnSortPaddedSpec.post enc Tryd.prog Tryd.f3 false true false false) := by
  refine returnsInHanded_of_change_and (C := Tryd.checked) (X := fun w _ => laidMetH Tryd.prog words w) (fun _ _ _ hh h => h.of_heap hh) own started (by kernel_rfl) Tryd.func3
    (ChangeSpec.witness_shaped (enc := enc) (C := Tryd.checked) (os := os) (X := fun w _ => laidMetH Tryd.prog words w) false (World.doorLaid Tryd.prog 14 os) #[.slice none 0 0] 8 rfl (World.shaped_of_RefB (by kernel_rfl) (by kernel_rfl)) (by kernel_rfl) (by kernel_rfl) (by kernel_rfl) (doorMet os _)) ?_
  intro W base args ds gs before hval hW _ _ hL _
  refine Go.Gw.law_step_laid (G := Go.Gw.G0) (tb := 4) laidOut (fun t ht => ?_) (fun t ht => ?_) varsRead rfl Tryd.underlying4 (fun ds gs h h' => ?_) (fun xs h => ?_) W base args ds gs before hval hW (known hL)
  · have := List.all_eq_true.1 readable t ht
    simp only [Bool.and_eq_true, decide_eq_true_eq] at this
    exact this
  · have := List.all_eq_true.1 leafy t ht
    exact Option.isSome_iff_exists.1 this
  · match ds, gs, h, h' with
    | [d], [g1], _, _ => rfl
  · exact Go.Gw.law_FnSortPadded xs h

theorem joined_of {P : Program} {f : FuncId} {fn : Func} {s : ChangeSpec} {c : OpenClaim} (k0 : c.wf (OpenSpec.ofChange s) = true) (k1 : laidOutB P = true) (k2 : mapsRowed P = true) (k3 : fn.params.all (P.readableRec ·) = true) (k4 : namedTie P c.named s.vars = true) (k5 : (c.stops == []) = true) (k6 : (P.stops == []) = true) (k7 : (c.knobs == []) = true) (k8 : (P.stopKnobs == []) = true) (k9 : (c.inPlace == P.inPlace f) = true) (k10 : (c.unfollowed == P.unfollowed f) = true) (k11 : (c.recurses == P.recurses f) = true) (k12 : (c.named == P.varsNamed f) = true) (k13 : (c.maps == (fn.params.toList ++ s.plain.varTypes P).any (P.mapsRec ·)) = true) (k14 : (c.ifaces == (fn.params.toList ++ s.plain.varTypes P).any (P.ifacesRec ·)) = true) (k15 : (c.mapsOut == P.mapsAmong fn.resultTypes.toList) = true) (k16 : (c.loops == (fn.params.toList ++ s.plain.varTypes P).any (P.loopsFrom ·)) = true) (k17 : (c.wideKeys == (fn.params.toList ++ s.plain.varTypes P ++ fn.resultTypes.toList).any (P.wideKeysFrom ·)) = true) (k18 : s.vars.all (P.varReadable ·) = true) (k19 : fn.resultTypes.all (fun t => P.readableRec t && decide (t < P.types.size)) = true) (k20 : (c.ifacesOut == fn.resultTypes.toList.any (P.ifacesRec ·)) = true) (k21 : (c.loopsOut == fn.resultTypes.toList.any (P.loopsFrom ·)) = true) (k22 : (c.plainKeys == P.plainKeys) = true) (k23 : c.shortTexts.isNone = true) (k24 : P.stopsHeard = true) (k25 : P.mayEnter = true) (k26 : (c.lifted == P.liftsFinal) = true) (k27 : (P.make == some c.make) = true) (k28 : (c.kinds == (if c.domain.isEmpty then [] else fn.params.toList.map fun t => match P.underlying t with | some (.int k) => some k | _ => none)) = true) (k29 : (c.pinned == c.pinnedBy) = true) (k30 : (c.veiled == (fn.params.toList ++ s.plain.varTypes P ++ fn.resultTypes.toList).any (P.veiledRec ·)) = true) (k31 : c.veiledFits P fn.params.toList (fn.params.toList ++ s.plain.varTypes P ++ fn.resultTypes.toList) = true) : joinedFacts P f fn s c = true := by
  simp only [joinedFacts, Bool.and_eq_true]
  exact ⟨⟨⟨⟨⟨⟨⟨⟨⟨⟨⟨⟨⟨⟨⟨⟨⟨⟨⟨⟨⟨⟨⟨⟨⟨⟨⟨⟨⟨⟨⟨k0, k1⟩, k2⟩, k3⟩, k4⟩, k5⟩, k6⟩, k7⟩, k8⟩, k9⟩, k10⟩, k11⟩, k12⟩, k13⟩, k14⟩, k15⟩, k16⟩, k17⟩, k18⟩, k19⟩, k20⟩, k21⟩, k22⟩, k23⟩, k24⟩, k25⟩, k26⟩, k27⟩, k28⟩, k29⟩, k30⟩, k31⟩

set_option maxRecDepth 100000
theorem jk0 : Rows.fnSortPaddedRow.wf (OpenSpec.ofChange Rows.fnSortPaddedSpec) = true := by kernel_rfl
theorem jk1 : laidOutB Tryd.pinned.checked.prog = true := by kernel_rfl
theorem jk2 : mapsRowed Tryd.pinned.checked.prog = true := by kernel_rfl
theorem jk3 : Tryd.f3.params.all (Tryd.pinned.checked.prog.readableRec ·) = true := by kernel_rfl
theorem jk4 : namedTie Tryd.pinned.checked.prog Rows.fnSortPaddedRow.named Rows.fnSortPaddedSpec.vars = true := by kernel_rfl
theorem jk5 : (Rows.fnSortPaddedRow.stops == []) = true := by kernel_rfl
theorem jk6 : (Tryd.pinned.checked.prog.stops == []) = true := by kernel_rfl
theorem jk7 : (Rows.fnSortPaddedRow.knobs == []) = true := by kernel_rfl
theorem jk8 : (Tryd.pinned.checked.prog.stopKnobs == []) = true := by kernel_rfl
theorem jk9 : (Rows.fnSortPaddedRow.inPlace == Tryd.pinned.checked.prog.inPlace 3) = true := by kernel_rfl
theorem jk10 : (Rows.fnSortPaddedRow.unfollowed == Tryd.pinned.checked.prog.unfollowed 3) = true := by kernel_rfl
theorem jk11 : (Rows.fnSortPaddedRow.recurses == Tryd.pinned.checked.prog.recurses 3) = true := by kernel_rfl
theorem jk12 : (Rows.fnSortPaddedRow.named == Tryd.pinned.checked.prog.varsNamed 3) = true := by kernel_rfl
theorem jk13 : (Rows.fnSortPaddedRow.maps == (Tryd.f3.params.toList ++ Rows.fnSortPaddedSpec.plain.varTypes Tryd.pinned.checked.prog).any (Tryd.pinned.checked.prog.mapsRec ·)) = true := by kernel_rfl
theorem jk14 : (Rows.fnSortPaddedRow.ifaces == (Tryd.f3.params.toList ++ Rows.fnSortPaddedSpec.plain.varTypes Tryd.pinned.checked.prog).any (Tryd.pinned.checked.prog.ifacesRec ·)) = true := by kernel_rfl
theorem jk15 : (Rows.fnSortPaddedRow.mapsOut == Tryd.pinned.checked.prog.mapsAmong Tryd.f3.resultTypes.toList) = true := by kernel_rfl
theorem jk16 : (Rows.fnSortPaddedRow.loops == (Tryd.f3.params.toList ++ Rows.fnSortPaddedSpec.plain.varTypes Tryd.pinned.checked.prog).any (Tryd.pinned.checked.prog.loopsFrom ·)) = true := by kernel_rfl
theorem jk17 : (Rows.fnSortPaddedRow.wideKeys == (Tryd.f3.params.toList ++ Rows.fnSortPaddedSpec.plain.varTypes Tryd.pinned.checked.prog ++ Tryd.f3.resultTypes.toList).any (Tryd.pinned.checked.prog.wideKeysFrom ·)) = true := by kernel_rfl
theorem jk18 : Rows.fnSortPaddedSpec.vars.all (Tryd.pinned.checked.prog.varReadable ·) = true := by kernel_rfl
theorem jk19 : Tryd.f3.resultTypes.all (fun t => Tryd.pinned.checked.prog.readableRec t && decide (t < Tryd.pinned.checked.prog.types.size)) = true := by kernel_rfl
theorem jk20 : (Rows.fnSortPaddedRow.ifacesOut == Tryd.f3.resultTypes.toList.any (Tryd.pinned.checked.prog.ifacesRec ·)) = true := by kernel_rfl
theorem jk21 : (Rows.fnSortPaddedRow.loopsOut == Tryd.f3.resultTypes.toList.any (Tryd.pinned.checked.prog.loopsFrom ·)) = true := by kernel_rfl
theorem jk22 : (Rows.fnSortPaddedRow.plainKeys == Tryd.pinned.checked.prog.plainKeys) = true := by kernel_rfl
theorem jk23 : Rows.fnSortPaddedRow.shortTexts.isNone = true := by kernel_rfl
theorem jk24 : Tryd.pinned.checked.prog.stopsHeard = true := by kernel_rfl
theorem jk25 : Tryd.pinned.checked.prog.mayEnter = true := by kernel_rfl
theorem jk26 : (Rows.fnSortPaddedRow.lifted == Tryd.pinned.checked.prog.liftsFinal) = true := by kernel_rfl
theorem jk27 : (Tryd.pinned.checked.prog.make == some Rows.fnSortPaddedRow.make) = true := by kernel_rfl
theorem jk28 : (Rows.fnSortPaddedRow.kinds == (if Rows.fnSortPaddedRow.domain.isEmpty then [] else Tryd.f3.params.toList.map fun t => match Tryd.pinned.checked.prog.underlying t with | some (.int k) => some k | _ => none)) = true := by kernel_rfl
theorem jk29 : (Rows.fnSortPaddedRow.pinned == Rows.fnSortPaddedRow.pinnedBy) = true := by kernel_rfl
theorem jk30 : (Rows.fnSortPaddedRow.veiled == (Tryd.f3.params.toList ++ Rows.fnSortPaddedSpec.plain.varTypes Tryd.pinned.checked.prog ++ Tryd.f3.resultTypes.toList).any (Tryd.pinned.checked.prog.veiledRec ·)) = true := by kernel_rfl
theorem jk31 : Rows.fnSortPaddedRow.veiledFits Tryd.pinned.checked.prog Tryd.f3.params.toList (Tryd.f3.params.toList ++ Rows.fnSortPaddedSpec.plain.varTypes Tryd.pinned.checked.prog ++ Tryd.f3.resultTypes.toList) = true := by kernel_rfl
theorem named : Tryd.pinned.checked.prog.funcNamed Rows.fnSortPaddedRow.func = some 3 := by kernel_rfl
theorem wrap : Func.isWrapper Tryd.pinned.checked.prog Tryd.f3 Rows.fnSortPaddedRow.wrapper Rows.fnSortPaddedRow.mainSum := by
  unfold Func.isWrapper; first | (rw [if_pos (by decide +kernel)]; kernel_rfl) | (rw [if_neg (by decide +kernel)]; exact ⟨rfl, rfl⟩)
theorem said : Rows.FnSortPaddedSaid :=
  OpenClaim.holds_of_wide 3 Tryd.f3 rfl rfl rfl rfl rfl rfl rfl ⟨rfl, rfl, rfl, rfl, rfl⟩ rfl rfl rfl rfl rfl named Tryd.func3 (joined_of jk0 jk1 jk2 jk3 jk4 jk5 jk6 jk7 jk8 jk9 jk10 jk11 jk12 jk13 jk14 jk15 jk16 jk17 jk18 jk19 jk20 jk21 jk22 jk23 jk24 jk25 jk26 jk27 jk28 jk29 jk30 jk31)
    (of_decide_eq_true (by kernel_rfl)) wrap
    (fun os started H enc _ => lifted os started H enc)

/-- No parameter wants a stand-in; the program's own looks are off. -/
theorem plain (f : FuncId) (fn : Func) (hf : Tryd.pinned.checked.prog.funcNamed "loop.example/obliviousqueries/laws.FnSortPadded" = some f) (hfn : Tryd.pinned.checked.prog.funcs[f]? = some fn) :
    false = Tryd.pinned.checked.prog.looks [] ∧ ∀ (j : Nat) t, fn.params[j]? = some t → Tryd.pinned.checked.prog.wantsStandIn t = false := by
  obtain rfl : f = 3 := Option.some.inj ((show Tryd.prog.funcNamed "loop.example/obliviousqueries/laws.FnSortPadded" = some 3 by kernel_rfl).symm.trans hf) |>.symm
  obtain rfl : fn = Tryd.f3 := (Option.some.inj (Tryd.func3.symm.trans hfn)).symm
  refine ⟨by kernel_rfl, fun j t ht => ?_⟩
  have hm : t ∈ Tryd.f3.params.toList := by simpa using Array.mem_of_getElem? ht
  have hall : (Tryd.f3.params.toList.all fun u => !Tryd.prog.wantsStandIn u) = true := by kernel_rfl
  exact (show Tryd.prog.wantsStandIn t = false by simpa using List.all_eq_true.1 hall t hm)

/-- The card. -/
theorem proved : Rows.FnSortPaddedCardSaid :=
  Claim7.holds_tied_plain_at .later [] _ _ _ _ said (fun _ h => by cases h) (by kernel_rfl) (fun _ h => by cases h) fnSortPadded_row_tie rfl ⟨rfl, rfl⟩ (by kernel_rfl) rfl plain (by kernel_rfl)
#print axioms proved
end Go.Proofs.YtigaelckdbeecaaDoor.fnSortPadded
