/-
  DERIVED. GIVEN WITH THE SEED: THE CARDS: each row of YtigaelckdbeecaaGreatDoorRows.lean that lists a variable, with what it lists TIED to the program's text (the seventh form; the later family's looks); each row that meets fmt, with fmt's text TOLD by the authors' own Lean function (tested against real Go, not proved from fmt's source: count such statements apart). THE CARD IS WHAT COUNTS. Prove the row's statement (the work); the ties are given (YtigaelckdbeecaaGreatDoorTie.lean); close each card by the builder's one call (the guide's Derived/Test/ToyasCard.lean, 'card_holds'). Laid BY PROGRAM, IN A SANDBOX (cutbox-door.mjs). By AI agents, Wed Nov 11 2026. No macro, syntax, notation, axiom, sorry.
-/
import Derived.Test.YtigaelckdbeecaaGreatDoorRows
import GoSem.ClaimSeven
namespace Go.Proofs.YtigaelckdbeecaaGreatDoor
namespace Rows

/-- THE TIED CARD OF 'laws.FnJoinPadded'. -/
def fnJoinPaddedCard : Claim7 := { stood := { row := fnJoinPaddedRow, standIns := [], harness := (true, "38ccf7a091fa955fd98bc3329bd5ad0e4375a9b00b2c6ec104daff81a65db366"), looks := false }, kinds := [], alts := [], laidByText := true, laidKinds := [.widerDeep], laidTests := true, laidLooks := .later }
def FnJoinPaddedCardSaid : Prop := Claim7.holds Tryz.pinned (.plain (OpenSpec.ofChange fnJoinPaddedSpec)) fnJoinPaddedCard

/-- THE SECOND FORM's CARD OF 'laws.FnJoinPadded'. -/
def fnJoinPaddedUptoCard : Claim7 := { stood := { row := fnJoinPaddedUptoRow, standIns := [], harness := (true, "38ccf7a091fa955fd98bc3329bd5ad0e4375a9b00b2c6ec104daff81a65db366"), looks := false }, kinds := [], alts := [], laidByText := true, laidKinds := [.widerDeep], laidTests := true, laidLooks := .later }
def FnJoinPaddedUptoCardSaid : Prop := Claim7.holds Tryz.pinned (.plain (OpenSpec.upto fnJoinPaddedSpec)) fnJoinPaddedUptoCard
end Rows
end Go.Proofs.YtigaelckdbeecaaGreatDoor
