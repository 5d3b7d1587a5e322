/-
  DERIVED. GIVEN WITH THE SEED: THE CARDS: each row of YtigaelckdbeecaaDoorRows.lean that lists a variable, with what it lists TIED to the program's text (the seventh form; the later family's looks); each row that meets fmt, with fmt's text TOLD by the authors' own Lean function (tested against real Go, not proved from fmt's source: count such statements apart). THE CARD IS WHAT COUNTS. Prove the row's statement (the work); the ties are given (YtigaelckdbeecaaDoorTie.lean); close each card by the builder's one call (the guide's Derived/Test/ToyasCard.lean, 'card_holds'). Laid BY PROGRAM, IN A SANDBOX (cutbox-door.mjs). By AI agents, Wed Nov 11 2026. No macro, syntax, notation, axiom, sorry.
-/
import Derived.Test.YtigaelckdbeecaaDoorRows
import GoSem.ClaimSeven
namespace Go.Proofs.YtigaelckdbeecaaDoor
namespace Rows

/-- THE TIED CARD OF 'laws.FnSortPadded'. -/
def fnSortPaddedCard : Claim7 := { stood := { row := fnSortPaddedRow, standIns := [], harness := (true, "5493d1098b51d43639d0b8fb5c4c4967c23a1148014c3567976dfc92b104e191"), looks := false }, kinds := [], alts := [], laidByText := true, laidKinds := [.widerDeep], laidTests := true, laidLooks := .later }
def FnSortPaddedCardSaid : Prop := Claim7.holds Tryd.pinned (.plain (OpenSpec.ofChange fnSortPaddedSpec)) fnSortPaddedCard

/-- THE SECOND FORM's CARD OF 'laws.FnSortPadded'. -/
def fnSortPaddedUptoCard : Claim7 := { stood := { row := fnSortPaddedUptoRow, standIns := [], harness := (true, "5493d1098b51d43639d0b8fb5c4c4967c23a1148014c3567976dfc92b104e191"), looks := false }, kinds := [], alts := [], laidByText := true, laidKinds := [.widerDeep], laidTests := true, laidLooks := .later }
def FnSortPaddedUptoCardSaid : Prop := Claim7.holds Tryd.pinned (.plain (OpenSpec.upto fnSortPaddedSpec)) fnSortPaddedUptoCard
end Rows
end Go.Proofs.YtigaelckdbeecaaDoor
