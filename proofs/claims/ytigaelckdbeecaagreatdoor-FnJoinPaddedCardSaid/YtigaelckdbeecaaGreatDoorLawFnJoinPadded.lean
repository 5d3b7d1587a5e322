/- The law FnJoinPadded holds of all its arguments, where the words that are no names are those of the program's text: it returns true and leaves memory as it was. -/
import Derived.Test.YtigaelckdbeecaaGreatDoorKnown
import Derived.Test.YtigaelckdbeecaaGreatDoorLawJoin
import Derived.Test.YtigaelckdbeecaaGreatDoorChecked
namespace Go.Proofs.YtigaelckdbeecaaGreatDoor.fnJoinPadded
open Go Go.ChangeShapes Go.WideShapes Go.ChangeAt Go.RowKit
set_option linter.unusedVariables false
set_option linter.unusedSimpArgs false
theorem readable : (Tryz.f3.params.toList.all fun t => Tryz.prog.readableRec t && decide (t < Tryz.prog.types.size)) = true := by kernel_rfl
theorem leafy : (Tryz.f3.params.toList.all fun t => (Go.Gw.leaves Tryz.prog 12 t).isSome) = true := by kernel_rfl
set_option maxRecDepth 100000 in
theorem lifted (os : Os) (started : os.Started) (H : Type) (enc : TypeId × Value → H) :
    ReturnsInHanded {} Tryz.checked os 3 .any (fun w args => (Rows.fnJoinPaddedSpec.pre enc Tryz.prog Tryz.f3 [] false w args ∧ laidMetH Tryz.prog words w) ∧ sizedMet enc Tryz.prog Tryz.f3 (OpenSpec.ofChange Rows.fnJoinPaddedSpec) false w args)
      (Rows.fnJoinPaddedSpec.post enc Tryz.prog Tryz.f3 false true false false) := by
  refine returnsInHanded_of_change_and (C := Tryz.checked) (X := fun w _ => laidMetH Tryz.prog words w) (fun _ _ _ hh h => h.of_heap hh) own started (by kernel_rfl) Tryz.func3
    (ChangeSpec.witness_shaped (enc := enc) (C := Tryz.checked) (os := os) (X := fun w _ => laidMetH Tryz.prog words w) false (World.doorLaid Tryz.prog 14 os) #[.slice none 0 0] 8 rfl (World.shaped_of_RefB (by kernel_rfl) (by kernel_rfl)) (by kernel_rfl) (by kernel_rfl) (by kernel_rfl) (doorMet os _)) ?_
  intro W base args ds gs before hval hW _ _ hL _
  refine Go.Gw.law_step_laid (G := Go.Gw.G0) (tb := 4) laidOut (fun t ht => ?_) (fun t ht => ?_) varsRead rfl Tryz.underlying4 (fun ds gs h h' => ?_) (fun xs h => ?_) W base args ds gs before hval hW (known hL)
  · have := List.all_eq_true.1 readable t ht
    simp only [Bool.and_eq_true, decide_eq_true_eq] at this
    exact this
  · have := List.all_eq_true.1 leafy t ht
    exact Option.isSome_iff_exists.1 this
  · match ds, gs, h, h' with
    | [d], [g1], _, _ => rfl
  · exact Go.Gw.law_FnJoinPadded xs h
theorem joined_of {P : Program} {f : FuncId} {fn : Func} {s : ChangeSpec} {c : OpenClaim} (k0 : c.wf (OpenSpec.ofChange s) = true) (k1 : laidOutB P = true) (k2 : mapsRowed P = true) (k3 : fn.params.all (P.readableRec ·) = true) (k4 : namedTie P c.named s.vars = true) (k5 : (c.stops == []) = true) (k6 : (P.stops == []) = true) (k7 : (c.knobs == []) = true) (k8 : (P.stopKnobs == []) = true) (k9 : (c.inPlace == P.inPlace f) = true) (k10 : (c.unfollowed == P.unfollowed f) = true) (k11 : (c.recurses == P.recurses f) = true) (k12 : (c.named == P.varsNamed f) = true) (k13 : (c.maps == (fn.params.toList ++ s.plain.varTypes P).any (P.mapsRec ·)) = true) (k14 : (c.ifaces == (fn.params.toList ++ s.plain.varTypes P).any (P.ifacesRec ·)) = true) (k15 : (c.mapsOut == P.mapsAmong fn.resultTypes.toList) = true) (k16 : (c.loops == (fn.params.toList ++ s.plain.varTypes P).any (P.loopsFrom ·)) = true) (k17 : (c.wideKeys == (fn.params.toList ++ s.plain.varTypes P ++ fn.resultTypes.toList).any (P.wideKeysFrom ·)) = true) (k18 : s.vars.all (P.varReadable ·) = true) (k19 : fn.resultTypes.all (fun t => P.readableRec t && decide (t < P.types.size)) = true) (k20 : (c.ifacesOut == fn.resultTypes.toList.any (P.ifacesRec ·)) = true) (k21 : (c.loopsOut == fn.resultTypes.toList.any (P.loopsFrom ·)) = true) (k22 : (c.plainKeys == P.plainKeys) = true) (k23 : c.shortTexts.isNone = true) (k24 : P.stopsHeard = true) (k25 : P.mayEnter = true) (k26 : (c.lifted == P.liftsFinal) = true) (k27 : (P.make == some c.make) = true) (k28 : (c.kinds == (if c.domain.isEmpty then [] else fn.params.toList.map fun t => match P.underlying t with | some (.int k) => some k | _ => none)) = true) (k29 : (c.pinned == c.pinnedBy) = true) (k30 : (c.veiled == (fn.params.toList ++ s.plain.varTypes P ++ fn.resultTypes.toList).any (P.veiledRec ·)) = true) (k31 : c.veiledFits P fn.params.toList (fn.params.toList ++ s.plain.varTypes P ++ fn.resultTypes.toList) = true) : joinedFacts P f fn s c = true := by
  simp only [joinedFacts, Bool.and_eq_true]
  exact ⟨⟨⟨⟨⟨⟨⟨⟨⟨⟨⟨⟨⟨⟨⟨⟨⟨⟨⟨⟨⟨⟨⟨⟨⟨⟨⟨⟨⟨⟨⟨k0, k1⟩, k2⟩, k3⟩, k4⟩, k5⟩, k6⟩, k7⟩, k8⟩, k9⟩, k10⟩, k11⟩, k12⟩, k13⟩, k14⟩, k15⟩, k16⟩, k17⟩, k18⟩, k19⟩, k20⟩, k21⟩, k22⟩, k23⟩, k24⟩, k25⟩, k26⟩, k27⟩, k28⟩, k29⟩, k30⟩, k31⟩
set_option maxRecDepth 100000
theorem jk0 : Rows.fnJoinPaddedRow.wf (OpenSpec.ofChange Rows.fnJoinPaddedSpec) = true := by kernel_rfl
theorem jk1 : laidOutB Tryz.pinned.checked.prog = true := by kernel_rfl
theorem jk2 : mapsRowed Tryz.pinned.checked.prog = true := by kernel_rfl
theorem jk3 : Tryz.f3.params.all (Tryz.pinned.checked.prog.readableRec ·) = true := by kernel_rfl
theorem jk4 : namedTie Tryz.pinned.checked.prog Rows.fnJoinPaddedRow.named Rows.fnJoinPaddedSpec.vars = true := by kernel_rfl
theorem jk5 : (Rows.fnJoinPaddedRow.stops == []) = true := by kernel_rfl
theorem jk6 : (Tryz.pinned.checked.prog.stops == []) = true := by kernel_rfl
theorem jk7 : (Rows.fnJoinPaddedRow.knobs == []) = true := by kernel_rfl
theorem jk8 : (Tryz.pinned.checked.prog.stopKnobs == []) = true := by kernel_rfl
theorem jk9 : (Rows.fnJoinPaddedRow.inPlace == Tryz.pinned.checked.prog.inPlace 3) = true := by kernel_rfl
theorem jk10 : (Rows.fnJoinPaddedRow.unfollowed == Tryz.pinned.checked.prog.unfollowed 3) = true := by kernel_rfl
theorem jk11 : (Rows.fnJoinPaddedRow.recurses == Tryz.pinned.checked.prog.recurses 3) = true := by kernel_rfl
theorem jk12 : (Rows.fnJoinPaddedRow.named == Tryz.pinned.checked.prog.varsNamed 3) = true := by kernel_rfl
theorem jk13 : (Rows.fnJoinPaddedRow.maps == (Tryz.f3.params.toList ++ Rows.fnJoinPaddedSpec.plain.varTypes Tryz.pinned.checked.prog).any (Tryz.pinned.checked.prog.mapsRec ·)) = true := by kernel_rfl
theorem jk14 : (Rows.fnJoinPaddedRow.ifaces == (Tryz.f3.params.toList ++ Rows.fnJoinPaddedSpec.plain.varTypes Tryz.pinned.checked.prog).any (Tryz.pinned.checked.prog.ifacesRec ·)) = true := by kernel_rfl
theorem jk15 : (Rows.fnJoinPaddedRow.mapsOut == Tryz.pinned.checked.prog.mapsAmong Tryz.f3.resultTypes.toList) = true := by kernel_rfl
theorem jk16 : (Rows.fnJoinPaddedRow.loops == (Tryz.f3.params.toList ++ Rows.fnJoinPaddedSpec.plain.varTypes Tryz.pinned.checked.prog).any (Tryz.pinned.checked.prog.loopsFrom ·)) = true := by kernel_rfl
theorem jk17 : (Rows.fnJoinPaddedRow.wideKeys == (Tryz.f3.params.toList ++ Rows.fnJoinPaddedSpec.plain.varTypes Tryz.pinned.checked.prog ++ Tryz.f3.resultTypes.toList).any (Tryz.pinned.checked.prog.wideKeysFrom ·)) = true := by kernel_rfl
theorem jk18 : Rows.fnJoinPaddedSpec.vars.all (Tryz.pinned.checked.prog.varReadable ·) = true := by kernel_rfl
theorem jk19 : Tryz.f3.resultTypes.all (fun t => Tryz.pinned.checked.prog.readableRec t && decide (t < Tryz.pinned.checked.prog.types.size)) = true := by kernel_rfl
theorem jk20 : (Rows.fnJoinPaddedRow.ifacesOut == Tryz.f3.resultTypes.toList.any (Tryz.pinned.checked.prog.ifacesRec ·)) = true := by kernel_rfl
theorem jk21 : (Rows.fnJoinPaddedRow.loopsOut == Tryz.f3.resultTypes.toList.any (Tryz.pinned.checked.prog.loopsFrom ·)) = true := by kernel_rfl
theorem jk22 : (Rows.fnJoinPaddedRow.plainKeys == Tryz.pinned.checked.prog.plainKeys) = true := by kernel_rfl
theorem jk23 : Rows.fnJoinPaddedRow.shortTexts.isNone = true := by kernel_rfl
theorem jk24 : Tryz.pinned.checked.prog.stopsHeard = true := by kernel_rfl
theorem jk25 : Tryz.pinned.checked.prog.mayEnter = true := by kernel_rfl
theorem jk26 : (Rows.fnJoinPaddedRow.lifted == Tryz.pinned.checked.prog.liftsFinal) = true := by kernel_rfl
theorem jk27 : (Tryz.pinned.checked.prog.make == some Rows.fnJoinPaddedRow.make) = true := by kernel_rfl
theorem jk28 : (Rows.fnJoinPaddedRow.kinds == (if Rows.fnJoinPaddedRow.domain.isEmpty then [] else Tryz.f3.params.toList.map fun t => match Tryz.pinned.checked.prog.underlying t with | some (.int k) => some k | _ => none)) = true := by kernel_rfl
theorem jk29 : (Rows.fnJoinPaddedRow.pinned == Rows.fnJoinPaddedRow.pinnedBy) = true := by kernel_rfl
theorem jk30 : (Rows.fnJoinPaddedRow.veiled == (Tryz.f3.params.toList ++ Rows.fnJoinPaddedSpec.plain.varTypes Tryz.pinned.checked.prog ++ Tryz.f3.resultTypes.toList).any (Tryz.pinned.checked.prog.veiledRec ·)) = true := by kernel_rfl
theorem jk31 : Rows.fnJoinPaddedRow.veiledFits Tryz.pinned.checked.prog Tryz.f3.params.toList (Tryz.f3.params.toList ++ Rows.fnJoinPaddedSpec.plain.varTypes Tryz.pinned.checked.prog ++ Tryz.f3.resultTypes.toList) = true := by kernel_rfl
theorem named : Tryz.pinned.checked.prog.funcNamed Rows.fnJoinPaddedRow.func = some 3 := by kernel_rfl
theorem wrap : Func.isWrapper Tryz.pinned.checked.prog Tryz.f3 Rows.fnJoinPaddedRow.wrapper Rows.fnJoinPaddedRow.mainSum := by
  unfold Func.isWrapper; first | (rw [if_pos (by decide +kernel)]; kernel_rfl) | (rw [if_neg (by decide +kernel)]; exact ⟨rfl, rfl⟩)
theorem said : Rows.FnJoinPaddedSaid :=
  OpenClaim.holds_of_wide 3 Tryz.f3 rfl rfl rfl rfl rfl rfl rfl ⟨rfl, rfl, rfl, rfl, rfl⟩ rfl rfl rfl rfl rfl named Tryz.func3 (joined_of jk0 jk1 jk2 jk3 jk4 jk5 jk6 jk7 jk8 jk9 jk10 jk11 jk12 jk13 jk14 jk15 jk16 jk17 jk18 jk19 jk20 jk21 jk22 jk23 jk24 jk25 jk26 jk27 jk28 jk29 jk30 jk31)
    (of_decide_eq_true (by kernel_rfl)) wrap
    (fun os started H enc _ => lifted os started H enc)
theorem plain (f : FuncId) (fn : Func) (hf : Tryz.pinned.checked.prog.funcNamed "loop.example/obliviousqueries/laws.FnJoinPadded" = some f) (hfn : Tryz.pinned.checked.prog.funcs[f]? = some fn) :
    false = Tryz.pinned.checked.prog.looks [] ∧ ∀ (j : Nat) t, fn.params[j]? = some t → Tryz.pinned.checked.prog.wantsStandIn t = false := by
  obtain rfl : f = 3 := Option.some.inj ((show Tryz.prog.funcNamed "loop.example/obliviousqueries/laws.FnJoinPadded" = some 3 by kernel_rfl).symm.trans hf) |>.symm
  obtain rfl : fn = Tryz.f3 := (Option.some.inj (Tryz.func3.symm.trans hfn)).symm
  refine ⟨by kernel_rfl, fun j t ht => ?_⟩
  have hm : t ∈ Tryz.f3.params.toList := by simpa using Array.mem_of_getElem? ht
  have hall : (Tryz.f3.params.toList.all fun u => !Tryz.prog.wantsStandIn u) = true := by kernel_rfl
  exact (show Tryz.prog.wantsStandIn t = false by simpa using List.all_eq_true.1 hall t hm)
theorem proved : Rows.FnJoinPaddedCardSaid :=
  Claim7.holds_tied_plain_at .later [] _ _ _ _ said (fun _ h => by cases h) (by kernel_rfl) (fun _ h => by cases h) fnJoinPadded_row_tie rfl ⟨rfl, rfl⟩ (by kernel_rfl) rfl plain (by kernel_rfl)
#print axioms proved
end Go.Proofs.YtigaelckdbeecaaGreatDoor.fnJoinPadded
