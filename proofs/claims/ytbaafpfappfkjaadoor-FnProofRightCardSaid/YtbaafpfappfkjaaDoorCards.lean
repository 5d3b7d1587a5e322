/-
  DERIVED. GIVEN WITH THE SEED: THE CARDS: each row of YtbaafpfappfkjaaDoorRows.lean that lists a variable, with what it lists TIED to the program's text (the seventh form; the later family's looks); each row that meets fmt, with fmt's text TOLD by the authors' own Lean function (tested against real Go, not proved from fmt's source: count such statements apart). THE CARD IS WHAT COUNTS. Prove the row's statement (the work); the ties are given (YtbaafpfappfkjaaDoorTie.lean); close each card by the builder's one call (the guide's Derived/Test/ToyasCard.lean, 'card_holds'). Laid BY PROGRAM, IN A SANDBOX (cutbox-door.mjs). By AI agents, Wed Nov 11 2026. No macro, syntax, notation, axiom, sorry.
-/
import Derived.Test.YtbaafpfappfkjaaDoorRows
import GoSem.ClaimSeven
namespace Go.Proofs.YtbaafpfappfkjaaDoor
namespace Rows

/-- THE TIED CARD OF 'laws.FnJoinTags'. -/
def fnJoinTagsCard : Claim7 := { stood := { row := fnJoinTagsRow, standIns := [], harness := (true, "48f281d5b50e32a2c1a2fa7121745af82482b7295b936640be8de62d2ffe73c9"), looks := false }, kinds := [], alts := [], laidByText := true, laidKinds := [.widerDeep], laidTests := true, laidLooks := .later }
def FnJoinTagsCardSaid : Prop := Claim7.holds Tryd.pinned (.plain (OpenSpec.ofChange fnJoinTagsSpec)) fnJoinTagsCard

/-- THE TIED CARD OF 'laws.FnLedgerValid'. -/
def fnLedgerValidCard : Claim7 := { stood := { row := fnLedgerValidRow, standIns := [], harness := (true, "48f281d5b50e32a2c1a2fa7121745af82482b7295b936640be8de62d2ffe73c9"), looks := false }, kinds := [], alts := [], laidByText := true, laidKinds := [.widerDeep], laidTests := true, laidLooks := .later }
def FnLedgerValidCardSaid : Prop := Claim7.holds Tryd.pinned (.plain (OpenSpec.ofChange fnLedgerValidSpec)) fnLedgerValidCard

/-- THE TIED CARD OF 'laws.FnNoiseFair'. -/
def fnNoiseFairCard : Claim7 := { stood := { row := fnNoiseFairRow, standIns := [], harness := (true, "48f281d5b50e32a2c1a2fa7121745af82482b7295b936640be8de62d2ffe73c9"), looks := false }, kinds := [], alts := [], laidByText := true, laidKinds := [.widerDeep], laidTests := true, laidLooks := .later }
def FnNoiseFairCardSaid : Prop := Claim7.holds Tryd.pinned (.plain (OpenSpec.ofChange fnNoiseFairSpec)) fnNoiseFairCard

/-- THE TIED CARD OF 'laws.FnNoiseOf'. -/
def fnNoiseOfCard : Claim7 := { stood := { row := fnNoiseOfRow, standIns := [], harness := (true, "48f281d5b50e32a2c1a2fa7121745af82482b7295b936640be8de62d2ffe73c9"), looks := false }, kinds := [], alts := [], laidByText := true, laidKinds := [.widerDeep], laidTests := true, laidLooks := .later }
def FnNoiseOfCardSaid : Prop := Claim7.holds Tryd.pinned (.plain (OpenSpec.ofChange fnNoiseOfSpec)) fnNoiseOfCard

/-- THE TIED CARD OF 'laws.FnLedgerOrder'. -/
def fnLedgerOrderCard : Claim7 := { stood := { row := fnLedgerOrderRow, standIns := [], harness := (true, "48f281d5b50e32a2c1a2fa7121745af82482b7295b936640be8de62d2ffe73c9"), looks := false }, kinds := [], alts := [], laidByText := true, laidKinds := [.widerDeep], laidTests := true, laidLooks := .later }
def FnLedgerOrderCardSaid : Prop := Claim7.holds Tryd.pinned (.plain (OpenSpec.ofChange fnLedgerOrderSpec)) fnLedgerOrderCard

/-- THE TIED CARD OF 'laws.FnLeftOf'. -/
def fnLeftOfCard : Claim7 := { stood := { row := fnLeftOfRow, standIns := [], harness := (true, "48f281d5b50e32a2c1a2fa7121745af82482b7295b936640be8de62d2ffe73c9"), looks := false }, kinds := [], alts := [], laidByText := true, laidKinds := [.widerDeep], laidTests := true, laidLooks := .later }
def FnLeftOfCardSaid : Prop := Claim7.holds Tryd.pinned (.plain (OpenSpec.ofChange fnLeftOfSpec)) fnLeftOfCard

/-- THE TIED CARD OF 'laws.FnSpendCost'. -/
def fnSpendCostCard : Claim7 := { stood := { row := fnSpendCostRow, standIns := [], harness := (true, "48f281d5b50e32a2c1a2fa7121745af82482b7295b936640be8de62d2ffe73c9"), looks := false }, kinds := [], alts := [], laidByText := true, laidKinds := [.widerDeep], laidTests := true, laidLooks := .later }
def FnSpendCostCardSaid : Prop := Claim7.holds Tryd.pinned (.plain (OpenSpec.ofChange fnSpendCostSpec)) fnSpendCostCard

/-- THE TIED CARD OF 'laws.FnRootOf'. -/
def fnRootOfCard : Claim7 := { stood := { row := fnRootOfRow, standIns := [], harness := (true, "48f281d5b50e32a2c1a2fa7121745af82482b7295b936640be8de62d2ffe73c9"), looks := false }, kinds := [], alts := [], laidByText := true, laidKinds := [.widerDeep], laidTests := true, laidLooks := .later }
def FnRootOfCardSaid : Prop := Claim7.holds Tryd.pinned (.plain (OpenSpec.ofChange fnRootOfSpec)) fnRootOfCard

/-- THE TIED CARD OF 'laws.FnTreeProofs'. -/
def fnTreeProofsCard : Claim7 := { stood := { row := fnTreeProofsRow, standIns := [], harness := (true, "48f281d5b50e32a2c1a2fa7121745af82482b7295b936640be8de62d2ffe73c9"), looks := false }, kinds := [], alts := [], laidByText := true, laidKinds := [.widerDeep], laidTests := true, laidLooks := .later }
def FnTreeProofsCardSaid : Prop := Claim7.holds Tryd.pinned (.plain (OpenSpec.ofChange fnTreeProofsSpec)) fnTreeProofsCard

/-- THE TIED CARD OF 'laws.FnProofOf'. -/
def fnProofOfCard : Claim7 := { stood := { row := fnProofOfRow, standIns := [], harness := (true, "48f281d5b50e32a2c1a2fa7121745af82482b7295b936640be8de62d2ffe73c9"), looks := false }, kinds := [], alts := [], laidByText := true, laidKinds := [.widerDeep], laidTests := true, laidLooks := .later }
def FnProofOfCardSaid : Prop := Claim7.holds Tryd.pinned (.plain (OpenSpec.ofChange fnProofOfSpec)) fnProofOfCard

/-- THE TIED CARD OF 'laws.FnProofRight'. -/
def fnProofRightCard : Claim7 := { stood := { row := fnProofRightRow, standIns := [], harness := (true, "48f281d5b50e32a2c1a2fa7121745af82482b7295b936640be8de62d2ffe73c9"), looks := false }, kinds := [], alts := [], laidByText := true, laidKinds := [.widerDeep], laidTests := true, laidLooks := .later }
def FnProofRightCardSaid : Prop := Claim7.holds Tryd.pinned (.plain (OpenSpec.ofChange fnProofRightSpec)) fnProofRightCard

/-- THE SECOND FORM's CARD OF 'laws.FnJoinTags'. -/
def fnJoinTagsUptoCard : Claim7 := { stood := { row := fnJoinTagsUptoRow, standIns := [], harness := (true, "48f281d5b50e32a2c1a2fa7121745af82482b7295b936640be8de62d2ffe73c9"), looks := false }, kinds := [], alts := [], laidByText := true, laidKinds := [.widerDeep], laidTests := true, laidLooks := .later }
def FnJoinTagsUptoCardSaid : Prop := Claim7.holds Tryd.pinned (.plain (OpenSpec.upto fnJoinTagsSpec)) fnJoinTagsUptoCard

/-- THE SECOND FORM's CARD OF 'laws.FnLedgerValid'. -/
def fnLedgerValidUptoCard : Claim7 := { stood := { row := fnLedgerValidUptoRow, standIns := [], harness := (true, "48f281d5b50e32a2c1a2fa7121745af82482b7295b936640be8de62d2ffe73c9"), looks := false }, kinds := [], alts := [], laidByText := true, laidKinds := [.widerDeep], laidTests := true, laidLooks := .later }
def FnLedgerValidUptoCardSaid : Prop := Claim7.holds Tryd.pinned (.plain (OpenSpec.upto fnLedgerValidSpec)) fnLedgerValidUptoCard

/-- THE SECOND FORM's CARD OF 'laws.FnNoiseFair'. -/
def fnNoiseFairUptoCard : Claim7 := { stood := { row := fnNoiseFairUptoRow, standIns := [], harness := (true, "48f281d5b50e32a2c1a2fa7121745af82482b7295b936640be8de62d2ffe73c9"), looks := false }, kinds := [], alts := [], laidByText := true, laidKinds := [.widerDeep], laidTests := true, laidLooks := .later }
def FnNoiseFairUptoCardSaid : Prop := Claim7.holds Tryd.pinned (.plain (OpenSpec.upto fnNoiseFairSpec)) fnNoiseFairUptoCard

/-- THE SECOND FORM's CARD OF 'laws.FnNoiseOf'. -/
def fnNoiseOfUptoCard : Claim7 := { stood := { row := fnNoiseOfUptoRow, standIns := [], harness := (true, "48f281d5b50e32a2c1a2fa7121745af82482b7295b936640be8de62d2ffe73c9"), looks := false }, kinds := [], alts := [], laidByText := true, laidKinds := [.widerDeep], laidTests := true, laidLooks := .later }
def FnNoiseOfUptoCardSaid : Prop := Claim7.holds Tryd.pinned (.plain (OpenSpec.upto fnNoiseOfSpec)) fnNoiseOfUptoCard

/-- THE SECOND FORM's CARD OF 'laws.FnLedgerOrder'. -/
def fnLedgerOrderUptoCard : Claim7 := { stood := { row := fnLedgerOrderUptoRow, standIns := [], harness := (true, "48f281d5b50e32a2c1a2fa7121745af82482b7295b936640be8de62d2ffe73c9"), looks := false }, kinds := [], alts := [], laidByText := true, laidKinds := [.widerDeep], laidTests := true, laidLooks := .later }
def FnLedgerOrderUptoCardSaid : Prop := Claim7.holds Tryd.pinned (.plain (OpenSpec.upto fnLedgerOrderSpec)) fnLedgerOrderUptoCard

/-- THE SECOND FORM's CARD OF 'laws.FnLeftOf'. -/
def fnLeftOfUptoCard : Claim7 := { stood := { row := fnLeftOfUptoRow, standIns := [], harness := (true, "48f281d5b50e32a2c1a2fa7121745af82482b7295b936640be8de62d2ffe73c9"), looks := false }, kinds := [], alts := [], laidByText := true, laidKinds := [.widerDeep], laidTests := true, laidLooks := .later }
def FnLeftOfUptoCardSaid : Prop := Claim7.holds Tryd.pinned (.plain (OpenSpec.upto fnLeftOfSpec)) fnLeftOfUptoCard

/-- THE SECOND FORM's CARD OF 'laws.FnSpendCost'. -/
def fnSpendCostUptoCard : Claim7 := { stood := { row := fnSpendCostUptoRow, standIns := [], harness := (true, "48f281d5b50e32a2c1a2fa7121745af82482b7295b936640be8de62d2ffe73c9"), looks := false }, kinds := [], alts := [], laidByText := true, laidKinds := [.widerDeep], laidTests := true, laidLooks := .later }
def FnSpendCostUptoCardSaid : Prop := Claim7.holds Tryd.pinned (.plain (OpenSpec.upto fnSpendCostSpec)) fnSpendCostUptoCard

/-- THE SECOND FORM's CARD OF 'laws.FnRootOf'. -/
def fnRootOfUptoCard : Claim7 := { stood := { row := fnRootOfUptoRow, standIns := [], harness := (true, "48f281d5b50e32a2c1a2fa7121745af82482b7295b936640be8de62d2ffe73c9"), looks := false }, kinds := [], alts := [], laidByText := true, laidKinds := [.widerDeep], laidTests := true, laidLooks := .later }
def FnRootOfUptoCardSaid : Prop := Claim7.holds Tryd.pinned (.plain (OpenSpec.upto fnRootOfSpec)) fnRootOfUptoCard

/-- THE SECOND FORM's CARD OF 'laws.FnTreeProofs'. -/
def fnTreeProofsUptoCard : Claim7 := { stood := { row := fnTreeProofsUptoRow, standIns := [], harness := (true, "48f281d5b50e32a2c1a2fa7121745af82482b7295b936640be8de62d2ffe73c9"), looks := false }, kinds := [], alts := [], laidByText := true, laidKinds := [.widerDeep], laidTests := true, laidLooks := .later }
def FnTreeProofsUptoCardSaid : Prop := Claim7.holds Tryd.pinned (.plain (OpenSpec.upto fnTreeProofsSpec)) fnTreeProofsUptoCard

/-- THE SECOND FORM's CARD OF 'laws.FnProofOf'. -/
def fnProofOfUptoCard : Claim7 := { stood := { row := fnProofOfUptoRow, standIns := [], harness := (true, "48f281d5b50e32a2c1a2fa7121745af82482b7295b936640be8de62d2ffe73c9"), looks := false }, kinds := [], alts := [], laidByText := true, laidKinds := [.widerDeep], laidTests := true, laidLooks := .later }
def FnProofOfUptoCardSaid : Prop := Claim7.holds Tryd.pinned (.plain (OpenSpec.upto fnProofOfSpec)) fnProofOfUptoCard

/-- THE SECOND FORM's CARD OF 'laws.FnProofRight'. -/
def fnProofRightUptoCard : Claim7 := { stood := { row := fnProofRightUptoRow, standIns := [], harness := (true, "48f281d5b50e32a2c1a2fa7121745af82482b7295b936640be8de62d2ffe73c9"), looks := false }, kinds := [], alts := [], laidByText := true, laidKinds := [.widerDeep], laidTests := true, laidLooks := .later }
def FnProofRightUptoCardSaid : Prop := Claim7.holds Tryd.pinned (.plain (OpenSpec.upto fnProofRightSpec)) fnProofRightUptoCard
end Rows
end Go.Proofs.YtbaafpfappfkjaaDoor
