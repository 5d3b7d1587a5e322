/-
  DERIVED. GIVEN WITH THE SEED: THE CARDS: each row of YtopnhnnfobbocaaDoorRows.lean that lists a variable, with what it lists TIED to the program's text (the seventh form; the later family's looks); each row that meets fmt, with fmt's text TOLD by the authors' own Lean function (tested against real Go, not proved from fmt's source: count such statements apart). THE CARD IS WHAT COUNTS. Prove the row's statement (the work); the ties are given (YtopnhnnfobbocaaDoorTie.lean); close each card by the builder's one call (the guide's Derived/Test/ToyasCard.lean, 'card_holds'). Laid BY PROGRAM, IN A SANDBOX (cutbox-door.mjs). By AI agents, Wed Nov 11 2026. No macro, syntax, notation, axiom, sorry.
-/
import Derived.Test.YtopnhnnfobbocaaDoorRows
import GoSem.ClaimSeven
namespace Go.Proofs.YtopnhnnfobbocaaDoor
namespace Rows

/-- THE TIED CARD OF 'laws.FnPathsFor'. -/
def fnPathsForCard : Claim7 := { stood := { row := fnPathsForRow, standIns := [], harness := (true, "da32629f7a4772cd3ca74381b3d75db74d03f676540c5dfdb2ed0780f19d61a6"), looks := false }, kinds := [], alts := [], laidByText := true, laidKinds := [.widerDeep], laidTests := true, laidLooks := .later }
def FnPathsForCardSaid : Prop := Claim7.holds Tryd.pinned (.plain (OpenSpec.ofChange fnPathsForSpec)) fnPathsForCard

/-- THE TIED CARD OF 'laws.FnExactFindTable'. -/
def fnExactFindTableCard : Claim7 := { stood := { row := fnExactFindTableRow, standIns := [], harness := (true, "da32629f7a4772cd3ca74381b3d75db74d03f676540c5dfdb2ed0780f19d61a6"), looks := false }, kinds := [], alts := [], laidByText := true, laidKinds := [.widerDeep], laidTests := true, laidLooks := .later }
def FnExactFindTableCardSaid : Prop := Claim7.holds Tryd.pinned (.plain (OpenSpec.ofChange fnExactFindTableSpec)) fnExactFindTableCard

/-- THE TIED CARD OF 'laws.FnSortRows'. -/
def fnSortRowsCard : Claim7 := { stood := { row := fnSortRowsRow, standIns := [], harness := (true, "da32629f7a4772cd3ca74381b3d75db74d03f676540c5dfdb2ed0780f19d61a6"), looks := false }, kinds := [], alts := [], laidByText := true, laidKinds := [.widerDeep], laidTests := true, laidLooks := .later }
def FnSortRowsCardSaid : Prop := Claim7.holds Tryd.pinned (.plain (OpenSpec.ofChange fnSortRowsSpec)) fnSortRowsCard

/-- THE TIED CARD OF 'laws.FnSameBag'. -/
def fnSameBagCard : Claim7 := { stood := { row := fnSameBagRow, standIns := [], harness := (true, "da32629f7a4772cd3ca74381b3d75db74d03f676540c5dfdb2ed0780f19d61a6"), looks := false }, kinds := [], alts := [], laidByText := true, laidKinds := [.widerDeep], laidTests := true, laidLooks := .later }
def FnSameBagCardSaid : Prop := Claim7.holds Tryd.pinned (.plain (OpenSpec.ofChange fnSameBagSpec)) fnSameBagCard

/-- THE TIED CARD OF 'laws.FnExactSameBag'. -/
def fnExactSameBagCard : Claim7 := { stood := { row := fnExactSameBagRow, standIns := [], harness := (true, "da32629f7a4772cd3ca74381b3d75db74d03f676540c5dfdb2ed0780f19d61a6"), looks := false }, kinds := [], alts := [], laidByText := true, laidKinds := [.widerDeep], laidTests := true, laidLooks := .later }
def FnExactSameBagCardSaid : Prop := Claim7.holds Tryd.pinned (.plain (OpenSpec.ofChange fnExactSameBagSpec)) fnExactSameBagCard

/-- THE TIED CARD OF 'laws.FnGroupOrder'. -/
def fnGroupOrderCard : Claim7 := { stood := { row := fnGroupOrderRow, standIns := [], harness := (true, "da32629f7a4772cd3ca74381b3d75db74d03f676540c5dfdb2ed0780f19d61a6"), looks := false }, kinds := [], alts := [], laidByText := true, laidKinds := [.widerDeep], laidTests := true, laidLooks := .later }
def FnGroupOrderCardSaid : Prop := Claim7.holds Tryd.pinned (.plain (OpenSpec.ofChange fnGroupOrderSpec)) fnGroupOrderCard

/-- THE TIED CARD OF 'laws.FnExactSortRows'. -/
def fnExactSortRowsCard : Claim7 := { stood := { row := fnExactSortRowsRow, standIns := [], harness := (true, "da32629f7a4772cd3ca74381b3d75db74d03f676540c5dfdb2ed0780f19d61a6"), looks := false }, kinds := [], alts := [], laidByText := true, laidKinds := [.widerDeep], laidTests := true, laidLooks := .later }
def FnExactSortRowsCardSaid : Prop := Claim7.holds Tryd.pinned (.plain (OpenSpec.ofChange fnExactSortRowsSpec)) fnExactSortRowsCard

/-- THE TIED CARD OF 'laws.FnOrderRows'. -/
def fnOrderRowsCard : Claim7 := { stood := { row := fnOrderRowsRow, standIns := [], harness := (true, "da32629f7a4772cd3ca74381b3d75db74d03f676540c5dfdb2ed0780f19d61a6"), looks := false }, kinds := [], alts := [], laidByText := true, laidKinds := [.widerDeep], laidTests := true, laidLooks := .later }
def FnOrderRowsCardSaid : Prop := Claim7.holds Tryd.pinned (.plain (OpenSpec.ofChange fnOrderRowsSpec)) fnOrderRowsCard

/-- THE TIED CARD OF 'laws.FnBagOrder'. -/
def fnBagOrderCard : Claim7 := { stood := { row := fnBagOrderRow, standIns := [], harness := (true, "da32629f7a4772cd3ca74381b3d75db74d03f676540c5dfdb2ed0780f19d61a6"), looks := false }, kinds := [], alts := [], laidByText := true, laidKinds := [.widerDeep], laidTests := true, laidLooks := .later }
def FnBagOrderCardSaid : Prop := Claim7.holds Tryd.pinned (.plain (OpenSpec.ofChange fnBagOrderSpec)) fnBagOrderCard

/-- THE TIED CARD OF 'laws.FnExactOrderRows'. -/
def fnExactOrderRowsCard : Claim7 := { stood := { row := fnExactOrderRowsRow, standIns := [], harness := (true, "da32629f7a4772cd3ca74381b3d75db74d03f676540c5dfdb2ed0780f19d61a6"), looks := false }, kinds := [], alts := [], laidByText := true, laidKinds := [.widerDeep], laidTests := true, laidLooks := .later }
def FnExactOrderRowsCardSaid : Prop := Claim7.holds Tryd.pinned (.plain (OpenSpec.ofChange fnExactOrderRowsSpec)) fnExactOrderRowsCard

/-- THE TIED CARD OF 'laws.FnSortPadded'. -/
def fnSortPaddedCard : Claim7 := { stood := { row := fnSortPaddedRow, standIns := [], harness := (true, "da32629f7a4772cd3ca74381b3d75db74d03f676540c5dfdb2ed0780f19d61a6"), looks := false }, kinds := [], alts := [], laidByText := true, laidKinds := [.widerDeep], laidTests := true, laidLooks := .later }
def FnSortPaddedCardSaid : Prop := Claim7.holds Tryd.pinned (.plain (OpenSpec.ofChange fnSortPaddedSpec)) fnSortPaddedCard

/-- THE SECOND FORM's CARD OF 'laws.FnPathsFor'. -/
def fnPathsForUptoCard : Claim7 := { stood := { row := fnPathsForUptoRow, standIns := [], harness := (true, "da32629f7a4772cd3ca74381b3d75db74d03f676540c5dfdb2ed0780f19d61a6"), looks := false }, kinds := [], alts := [], laidByText := true, laidKinds := [.widerDeep], laidTests := true, laidLooks := .later }
def FnPathsForUptoCardSaid : Prop := Claim7.holds Tryd.pinned (.plain (OpenSpec.upto fnPathsForSpec)) fnPathsForUptoCard

/-- THE SECOND FORM's CARD OF 'laws.FnExactFindTable'. -/
def fnExactFindTableUptoCard : Claim7 := { stood := { row := fnExactFindTableUptoRow, standIns := [], harness := (true, "da32629f7a4772cd3ca74381b3d75db74d03f676540c5dfdb2ed0780f19d61a6"), looks := false }, kinds := [], alts := [], laidByText := true, laidKinds := [.widerDeep], laidTests := true, laidLooks := .later }
def FnExactFindTableUptoCardSaid : Prop := Claim7.holds Tryd.pinned (.plain (OpenSpec.upto fnExactFindTableSpec)) fnExactFindTableUptoCard

/-- THE SECOND FORM's CARD OF 'laws.FnSortRows'. -/
def fnSortRowsUptoCard : Claim7 := { stood := { row := fnSortRowsUptoRow, standIns := [], harness := (true, "da32629f7a4772cd3ca74381b3d75db74d03f676540c5dfdb2ed0780f19d61a6"), looks := false }, kinds := [], alts := [], laidByText := true, laidKinds := [.widerDeep], laidTests := true, laidLooks := .later }
def FnSortRowsUptoCardSaid : Prop := Claim7.holds Tryd.pinned (.plain (OpenSpec.upto fnSortRowsSpec)) fnSortRowsUptoCard

/-- THE SECOND FORM's CARD OF 'laws.FnSameBag'. -/
def fnSameBagUptoCard : Claim7 := { stood := { row := fnSameBagUptoRow, standIns := [], harness := (true, "da32629f7a4772cd3ca74381b3d75db74d03f676540c5dfdb2ed0780f19d61a6"), looks := false }, kinds := [], alts := [], laidByText := true, laidKinds := [.widerDeep], laidTests := true, laidLooks := .later }
def FnSameBagUptoCardSaid : Prop := Claim7.holds Tryd.pinned (.plain (OpenSpec.upto fnSameBagSpec)) fnSameBagUptoCard

/-- THE SECOND FORM's CARD OF 'laws.FnExactSameBag'. -/
def fnExactSameBagUptoCard : Claim7 := { stood := { row := fnExactSameBagUptoRow, standIns := [], harness := (true, "da32629f7a4772cd3ca74381b3d75db74d03f676540c5dfdb2ed0780f19d61a6"), looks := false }, kinds := [], alts := [], laidByText := true, laidKinds := [.widerDeep], laidTests := true, laidLooks := .later }
def FnExactSameBagUptoCardSaid : Prop := Claim7.holds Tryd.pinned (.plain (OpenSpec.upto fnExactSameBagSpec)) fnExactSameBagUptoCard

/-- THE SECOND FORM's CARD OF 'laws.FnGroupOrder'. -/
def fnGroupOrderUptoCard : Claim7 := { stood := { row := fnGroupOrderUptoRow, standIns := [], harness := (true, "da32629f7a4772cd3ca74381b3d75db74d03f676540c5dfdb2ed0780f19d61a6"), looks := false }, kinds := [], alts := [], laidByText := true, laidKinds := [.widerDeep], laidTests := true, laidLooks := .later }
def FnGroupOrderUptoCardSaid : Prop := Claim7.holds Tryd.pinned (.plain (OpenSpec.upto fnGroupOrderSpec)) fnGroupOrderUptoCard

/-- THE SECOND FORM's CARD OF 'laws.FnExactSortRows'. -/
def fnExactSortRowsUptoCard : Claim7 := { stood := { row := fnExactSortRowsUptoRow, standIns := [], harness := (true, "da32629f7a4772cd3ca74381b3d75db74d03f676540c5dfdb2ed0780f19d61a6"), looks := false }, kinds := [], alts := [], laidByText := true, laidKinds := [.widerDeep], laidTests := true, laidLooks := .later }
def FnExactSortRowsUptoCardSaid : Prop := Claim7.holds Tryd.pinned (.plain (OpenSpec.upto fnExactSortRowsSpec)) fnExactSortRowsUptoCard

/-- THE SECOND FORM's CARD OF 'laws.FnOrderRows'. -/
def fnOrderRowsUptoCard : Claim7 := { stood := { row := fnOrderRowsUptoRow, standIns := [], harness := (true, "da32629f7a4772cd3ca74381b3d75db74d03f676540c5dfdb2ed0780f19d61a6"), looks := false }, kinds := [], alts := [], laidByText := true, laidKinds := [.widerDeep], laidTests := true, laidLooks := .later }
def FnOrderRowsUptoCardSaid : Prop := Claim7.holds Tryd.pinned (.plain (OpenSpec.upto fnOrderRowsSpec)) fnOrderRowsUptoCard

/-- THE SECOND FORM's CARD OF 'laws.FnBagOrder'. -/
def fnBagOrderUptoCard : Claim7 := { stood := { row := fnBagOrderUptoRow, standIns := [], harness := (true, "da32629f7a4772cd3ca74381b3d75db74d03f676540c5dfdb2ed0780f19d61a6"), looks := false }, kinds := [], alts := [], laidByText := true, laidKinds := [.widerDeep], laidTests := true, laidLooks := .later }
def FnBagOrderUptoCardSaid : Prop := Claim7.holds Tryd.pinned (.plain (OpenSpec.upto fnBagOrderSpec)) fnBagOrderUptoCard

/-- THE SECOND FORM's CARD OF 'laws.FnExactOrderRows'. -/
def fnExactOrderRowsUptoCard : Claim7 := { stood := { row := fnExactOrderRowsUptoRow, standIns := [], harness := (true, "da32629f7a4772cd3ca74381b3d75db74d03f676540c5dfdb2ed0780f19d61a6"), looks := false }, kinds := [], alts := [], laidByText := true, laidKinds := [.widerDeep], laidTests := true, laidLooks := .later }
def FnExactOrderRowsUptoCardSaid : Prop := Claim7.holds Tryd.pinned (.plain (OpenSpec.upto fnExactOrderRowsSpec)) fnExactOrderRowsUptoCard

/-- THE SECOND FORM's CARD OF 'laws.FnSortPadded'. -/
def fnSortPaddedUptoCard : Claim7 := { stood := { row := fnSortPaddedUptoRow, standIns := [], harness := (true, "da32629f7a4772cd3ca74381b3d75db74d03f676540c5dfdb2ed0780f19d61a6"), looks := false }, kinds := [], alts := [], laidByText := true, laidKinds := [.widerDeep], laidTests := true, laidLooks := .later }
def FnSortPaddedUptoCardSaid : Prop := Claim7.holds Tryd.pinned (.plain (OpenSpec.upto fnSortPaddedSpec)) fnSortPaddedUptoCard
end Rows
end Go.Proofs.YtopnhnnfobbocaaDoor
