/-
  DERIVED. GIVEN WITH THE SEED: THE CARDS: each row of YthogdhepjcomjaaGreatDoorRows.lean that lists a variable, with what it lists TIED to the program's text (the seventh form; the later family's looks); each row that meets fmt, with fmt's text TOLD by the authors' own Lean function (tested against real Go, not proved from fmt's source: count such statements apart). THE CARD IS WHAT COUNTS. Prove the row's statement (the work); the ties are given (YthogdhepjcomjaaGreatDoorTie.lean); close each card by the builder's one call (the guide's Derived/Test/ToyasCard.lean, 'card_holds'). Laid BY PROGRAM, IN A SANDBOX (cutbox-door.mjs). By AI agents, Wed Nov 11 2026. No macro, syntax, notation, axiom, sorry.
-/
import Derived.Test.YthogdhepjcomjaaGreatDoorRows
import GoSem.ClaimSeven
namespace Go.Proofs.YthogdhepjcomjaaGreatDoor
namespace Rows

/-- THE TIED CARD OF 'waterhourlaw07.WatchProofs'. -/
def watchProofsCard : Claim7 := { stood := { row := watchProofsRow, standIns := [], harness := (true, "9c367d019a135fde1db7203131e15e04606e45438a9b5e9f3d427136e7f8794d"), looks := false }, kinds := [], alts := [], laidByText := true, laidKinds := [.data, .data, .data], laidTests := true, laidLooks := .later }
def WatchProofsCardSaid : Prop := Claim7.holds Tryz.pinned (.plain (OpenSpec.ofChange watchProofsSpec)) watchProofsCard

/-- THE TIED CARD OF 'waterhourlaw07.WatchBare'. -/
def watchBareCard : Claim7 := { stood := { row := watchBareRow, standIns := [], harness := (true, "9c367d019a135fde1db7203131e15e04606e45438a9b5e9f3d427136e7f8794d"), looks := false }, kinds := [], alts := [], laidByText := true, laidKinds := [.data, .data, .data], laidTests := true, laidLooks := .later }
def WatchBareCardSaid : Prop := Claim7.holds Tryz.pinned (.plain (OpenSpec.ofChange watchBareSpec)) watchBareCard

/-- THE TIED CARD OF 'waterhourlaw07.WatchEither'. -/
def watchEitherCard : Claim7 := { stood := { row := watchEitherRow, standIns := [], harness := (true, "9c367d019a135fde1db7203131e15e04606e45438a9b5e9f3d427136e7f8794d"), looks := false }, kinds := [], alts := [], laidByText := true, laidKinds := [.data, .data, .data], laidTests := true, laidLooks := .later }
def WatchEitherCardSaid : Prop := Claim7.holds Tryz.pinned (.plain (OpenSpec.ofChange watchEitherSpec)) watchEitherCard

/-- THE TIED CARD OF 'waterhourlaw07.WatchSure'. -/
def watchSureCard : Claim7 := { stood := { row := watchSureRow, standIns := [], harness := (true, "9c367d019a135fde1db7203131e15e04606e45438a9b5e9f3d427136e7f8794d"), looks := false }, kinds := [], alts := [], laidByText := true, laidKinds := [.data, .data, .data], laidTests := true, laidLooks := .later }
def WatchSureCardSaid : Prop := Claim7.holds Tryz.pinned (.plain (OpenSpec.ofChange watchSureSpec)) watchSureCard

/-- THE TIED CARD OF 'waterhourlaw07.WatchMoved'. -/
def watchMovedCard : Claim7 := { stood := { row := watchMovedRow, standIns := [], harness := (true, "9c367d019a135fde1db7203131e15e04606e45438a9b5e9f3d427136e7f8794d"), looks := false }, kinds := [], alts := [], laidByText := true, laidKinds := [.data, .data, .data], laidTests := true, laidLooks := .later }
def WatchMovedCardSaid : Prop := Claim7.holds Tryz.pinned (.plain (OpenSpec.ofChange watchMovedSpec)) watchMovedCard

/-- THE TIED CARD OF 'waterhourlaw07.WatchNever'. -/
def watchNeverCard : Claim7 := { stood := { row := watchNeverRow, standIns := [], harness := (true, "9c367d019a135fde1db7203131e15e04606e45438a9b5e9f3d427136e7f8794d"), looks := false }, kinds := [], alts := [], laidByText := true, laidKinds := [.data, .data, .data], laidTests := true, laidLooks := .later }
def WatchNeverCardSaid : Prop := Claim7.holds Tryz.pinned (.plain (OpenSpec.ofChange watchNeverSpec)) watchNeverCard

/-- THE TIED CARD OF 'waterhourlaw07.WatchTurns'. -/
def watchTurnsCard : Claim7 := { stood := { row := watchTurnsRow, standIns := [], harness := (true, "9c367d019a135fde1db7203131e15e04606e45438a9b5e9f3d427136e7f8794d"), looks := false }, kinds := [], alts := [], laidByText := true, laidKinds := [.data, .data, .data], laidTests := true, laidLooks := .later }
def WatchTurnsCardSaid : Prop := Claim7.holds Tryz.pinned (.plain (OpenSpec.ofChange watchTurnsSpec)) watchTurnsCard

/-- THE TIED CARD OF 'waterhourlaw07.WatchNeeds'. -/
def watchNeedsCard : Claim7 := { stood := { row := watchNeedsRow, standIns := [], harness := (true, "9c367d019a135fde1db7203131e15e04606e45438a9b5e9f3d427136e7f8794d"), looks := false }, kinds := [], alts := [], laidByText := true, laidKinds := [.data, .data, .data], laidTests := true, laidLooks := .later }
def WatchNeedsCardSaid : Prop := Claim7.holds Tryz.pinned (.plain (OpenSpec.ofChange watchNeedsSpec)) watchNeedsCard

/-- THE TIED CARD OF 'waterhourlaw07.WatchLeast'. -/
def watchLeastCard : Claim7 := { stood := { row := watchLeastRow, standIns := [], harness := (true, "9c367d019a135fde1db7203131e15e04606e45438a9b5e9f3d427136e7f8794d"), looks := false }, kinds := [], alts := [], laidByText := true, laidKinds := [.data, .data, .data], laidTests := true, laidLooks := .later }
def WatchLeastCardSaid : Prop := Claim7.holds Tryz.pinned (.plain (OpenSpec.ofChange watchLeastSpec)) watchLeastCard

/-- THE TIED CARD OF 'waterhourlaw07.WatchExact'. -/
def watchExactCard : Claim7 := { stood := { row := watchExactRow, standIns := [], harness := (true, "9c367d019a135fde1db7203131e15e04606e45438a9b5e9f3d427136e7f8794d"), looks := false }, kinds := [], alts := [], laidByText := true, laidKinds := [.data, .data, .data], laidTests := true, laidLooks := .later }
def WatchExactCardSaid : Prop := Claim7.holds Tryz.pinned (.plain (OpenSpec.ofChange watchExactSpec)) watchExactCard

/-- THE TIED CARD OF 'waterhourlaw07.WatchShorter'. -/
def watchShorterCard : Claim7 := { stood := { row := watchShorterRow, standIns := [], harness := (true, "9c367d019a135fde1db7203131e15e04606e45438a9b5e9f3d427136e7f8794d"), looks := false }, kinds := [], alts := [], laidByText := true, laidKinds := [.data, .data, .data], laidTests := true, laidLooks := .later }
def WatchShorterCardSaid : Prop := Claim7.holds Tryz.pinned (.plain (OpenSpec.ofChange watchShorterSpec)) watchShorterCard

/-- THE TIED CARD OF 'waterhourlaw07.WatchLacking'. -/
def watchLackingCard : Claim7 := { stood := { row := watchLackingRow, standIns := [], harness := (true, "9c367d019a135fde1db7203131e15e04606e45438a9b5e9f3d427136e7f8794d"), looks := false }, kinds := [], alts := [], laidByText := true, laidKinds := [.data, .data, .data], laidTests := true, laidLooks := .later }
def WatchLackingCardSaid : Prop := Claim7.holds Tryz.pinned (.plain (OpenSpec.ofChange watchLackingSpec)) watchLackingCard

/-- THE TIED CARD OF 'waterhourlaw07.WatchPlans'. -/
def watchPlansCard : Claim7 := { stood := { row := watchPlansRow, standIns := [], harness := (true, "9c367d019a135fde1db7203131e15e04606e45438a9b5e9f3d427136e7f8794d"), looks := false }, kinds := [], alts := [], laidByText := true, laidKinds := [.data, .data, .data], laidTests := true, laidLooks := .later }
def WatchPlansCardSaid : Prop := Claim7.holds Tryz.pinned (.plain (OpenSpec.ofChange watchPlansSpec)) watchPlansCard

/-- THE SECOND FORM's CARD OF 'waterhourlaw07.WatchProofs'. -/
def watchProofsUptoCard : Claim7 := { stood := { row := watchProofsUptoRow, standIns := [], harness := (true, "9c367d019a135fde1db7203131e15e04606e45438a9b5e9f3d427136e7f8794d"), looks := false }, kinds := [], alts := [], laidByText := true, laidKinds := [.data, .data, .data], laidTests := true, laidLooks := .later }
def WatchProofsUptoCardSaid : Prop := Claim7.holds Tryz.pinned (.plain (OpenSpec.upto watchProofsSpec)) watchProofsUptoCard

/-- THE SECOND FORM's CARD OF 'waterhourlaw07.WatchBare'. -/
def watchBareUptoCard : Claim7 := { stood := { row := watchBareUptoRow, standIns := [], harness := (true, "9c367d019a135fde1db7203131e15e04606e45438a9b5e9f3d427136e7f8794d"), looks := false }, kinds := [], alts := [], laidByText := true, laidKinds := [.data, .data, .data], laidTests := true, laidLooks := .later }
def WatchBareUptoCardSaid : Prop := Claim7.holds Tryz.pinned (.plain (OpenSpec.upto watchBareSpec)) watchBareUptoCard

/-- THE SECOND FORM's CARD OF 'waterhourlaw07.WatchEither'. -/
def watchEitherUptoCard : Claim7 := { stood := { row := watchEitherUptoRow, standIns := [], harness := (true, "9c367d019a135fde1db7203131e15e04606e45438a9b5e9f3d427136e7f8794d"), looks := false }, kinds := [], alts := [], laidByText := true, laidKinds := [.data, .data, .data], laidTests := true, laidLooks := .later }
def WatchEitherUptoCardSaid : Prop := Claim7.holds Tryz.pinned (.plain (OpenSpec.upto watchEitherSpec)) watchEitherUptoCard

/-- THE SECOND FORM's CARD OF 'waterhourlaw07.WatchSure'. -/
def watchSureUptoCard : Claim7 := { stood := { row := watchSureUptoRow, standIns := [], harness := (true, "9c367d019a135fde1db7203131e15e04606e45438a9b5e9f3d427136e7f8794d"), looks := false }, kinds := [], alts := [], laidByText := true, laidKinds := [.data, .data, .data], laidTests := true, laidLooks := .later }
def WatchSureUptoCardSaid : Prop := Claim7.holds Tryz.pinned (.plain (OpenSpec.upto watchSureSpec)) watchSureUptoCard

/-- THE SECOND FORM's CARD OF 'waterhourlaw07.WatchMoved'. -/
def watchMovedUptoCard : Claim7 := { stood := { row := watchMovedUptoRow, standIns := [], harness := (true, "9c367d019a135fde1db7203131e15e04606e45438a9b5e9f3d427136e7f8794d"), looks := false }, kinds := [], alts := [], laidByText := true, laidKinds := [.data, .data, .data], laidTests := true, laidLooks := .later }
def WatchMovedUptoCardSaid : Prop := Claim7.holds Tryz.pinned (.plain (OpenSpec.upto watchMovedSpec)) watchMovedUptoCard

/-- THE SECOND FORM's CARD OF 'waterhourlaw07.WatchNever'. -/
def watchNeverUptoCard : Claim7 := { stood := { row := watchNeverUptoRow, standIns := [], harness := (true, "9c367d019a135fde1db7203131e15e04606e45438a9b5e9f3d427136e7f8794d"), looks := false }, kinds := [], alts := [], laidByText := true, laidKinds := [.data, .data, .data], laidTests := true, laidLooks := .later }
def WatchNeverUptoCardSaid : Prop := Claim7.holds Tryz.pinned (.plain (OpenSpec.upto watchNeverSpec)) watchNeverUptoCard

/-- THE SECOND FORM's CARD OF 'waterhourlaw07.WatchTurns'. -/
def watchTurnsUptoCard : Claim7 := { stood := { row := watchTurnsUptoRow, standIns := [], harness := (true, "9c367d019a135fde1db7203131e15e04606e45438a9b5e9f3d427136e7f8794d"), looks := false }, kinds := [], alts := [], laidByText := true, laidKinds := [.data, .data, .data], laidTests := true, laidLooks := .later }
def WatchTurnsUptoCardSaid : Prop := Claim7.holds Tryz.pinned (.plain (OpenSpec.upto watchTurnsSpec)) watchTurnsUptoCard

/-- THE SECOND FORM's CARD OF 'waterhourlaw07.WatchNeeds'. -/
def watchNeedsUptoCard : Claim7 := { stood := { row := watchNeedsUptoRow, standIns := [], harness := (true, "9c367d019a135fde1db7203131e15e04606e45438a9b5e9f3d427136e7f8794d"), looks := false }, kinds := [], alts := [], laidByText := true, laidKinds := [.data, .data, .data], laidTests := true, laidLooks := .later }
def WatchNeedsUptoCardSaid : Prop := Claim7.holds Tryz.pinned (.plain (OpenSpec.upto watchNeedsSpec)) watchNeedsUptoCard

/-- THE SECOND FORM's CARD OF 'waterhourlaw07.WatchLeast'. -/
def watchLeastUptoCard : Claim7 := { stood := { row := watchLeastUptoRow, standIns := [], harness := (true, "9c367d019a135fde1db7203131e15e04606e45438a9b5e9f3d427136e7f8794d"), looks := false }, kinds := [], alts := [], laidByText := true, laidKinds := [.data, .data, .data], laidTests := true, laidLooks := .later }
def WatchLeastUptoCardSaid : Prop := Claim7.holds Tryz.pinned (.plain (OpenSpec.upto watchLeastSpec)) watchLeastUptoCard

/-- THE SECOND FORM's CARD OF 'waterhourlaw07.WatchExact'. -/
def watchExactUptoCard : Claim7 := { stood := { row := watchExactUptoRow, standIns := [], harness := (true, "9c367d019a135fde1db7203131e15e04606e45438a9b5e9f3d427136e7f8794d"), looks := false }, kinds := [], alts := [], laidByText := true, laidKinds := [.data, .data, .data], laidTests := true, laidLooks := .later }
def WatchExactUptoCardSaid : Prop := Claim7.holds Tryz.pinned (.plain (OpenSpec.upto watchExactSpec)) watchExactUptoCard

/-- THE SECOND FORM's CARD OF 'waterhourlaw07.WatchShorter'. -/
def watchShorterUptoCard : Claim7 := { stood := { row := watchShorterUptoRow, standIns := [], harness := (true, "9c367d019a135fde1db7203131e15e04606e45438a9b5e9f3d427136e7f8794d"), looks := false }, kinds := [], alts := [], laidByText := true, laidKinds := [.data, .data, .data], laidTests := true, laidLooks := .later }
def WatchShorterUptoCardSaid : Prop := Claim7.holds Tryz.pinned (.plain (OpenSpec.upto watchShorterSpec)) watchShorterUptoCard

/-- THE SECOND FORM's CARD OF 'waterhourlaw07.WatchLacking'. -/
def watchLackingUptoCard : Claim7 := { stood := { row := watchLackingUptoRow, standIns := [], harness := (true, "9c367d019a135fde1db7203131e15e04606e45438a9b5e9f3d427136e7f8794d"), looks := false }, kinds := [], alts := [], laidByText := true, laidKinds := [.data, .data, .data], laidTests := true, laidLooks := .later }
def WatchLackingUptoCardSaid : Prop := Claim7.holds Tryz.pinned (.plain (OpenSpec.upto watchLackingSpec)) watchLackingUptoCard

/-- THE SECOND FORM's CARD OF 'waterhourlaw07.WatchPlans'. -/
def watchPlansUptoCard : Claim7 := { stood := { row := watchPlansUptoRow, standIns := [], harness := (true, "9c367d019a135fde1db7203131e15e04606e45438a9b5e9f3d427136e7f8794d"), looks := false }, kinds := [], alts := [], laidByText := true, laidKinds := [.data, .data, .data], laidTests := true, laidLooks := .later }
def WatchPlansUptoCardSaid : Prop := Claim7.holds Tryz.pinned (.plain (OpenSpec.upto watchPlansSpec)) watchPlansUptoCard
end Rows
end Go.Proofs.YthogdhepjcomjaaGreatDoor
