/-
  DERIVED. GIVEN WITH THE SEED: THE CARDS: each row of YtnnhmgcigoiceaaGreatDoorRows.lean that lists a variable, with what it lists TIED to the program's text (the seventh form; the later family's looks); each row that meets fmt, with fmt's text TOLD by the authors' own Lean function (tested against real Go, not proved from fmt's source: count such statements apart). THE CARD IS WHAT COUNTS. Prove the row's statement (the work); the ties are given (YtnnhmgcigoiceaaGreatDoorTie.lean); close each card by the builder's one call (the guide's Derived/Test/ToyasCard.lean, 'card_holds'). Laid BY PROGRAM, IN A SANDBOX (cutbox-door.mjs). By AI agents, Wed Nov 11 2026. No macro, syntax, notation, axiom, sorry.
-/
import Derived.Test.YtnnhmgcigoiceaaGreatDoorRows
import GoSem.ClaimSeven
namespace Go.Proofs.YtnnhmgcigoiceaaGreatDoor
namespace Rows

/-- THE TIED CARD OF 'waterhourlaw07.WatchTexts'. -/
def watchTextsCard : Claim7 := { stood := { row := watchTextsRow, standIns := [], harness := (true, "e3a993e81c6d34a3e96ad6d18d37031ae3ce1016f50dba35e4bec338690c848a"), looks := true }, kinds := [], alts := [], laidByText := true, laidKinds := [.data, .data, .data, .data, .sentinel, .sentinel, .pinned], laidTests := true, laidLooks := .later }
def WatchTextsCardSaid : Prop := Claim7.holds Tryz.pinned (.plain (OpenSpec.ofChange watchTextsSpec)) watchTextsCard

/-- THE SECOND FORM's CARD OF 'waterhourlaw07.WatchTexts'. -/
def watchTextsUptoCard : Claim7 := { stood := { row := watchTextsUptoRow, standIns := [], harness := (true, "e3a993e81c6d34a3e96ad6d18d37031ae3ce1016f50dba35e4bec338690c848a"), looks := true }, kinds := [], alts := [], laidByText := true, laidKinds := [.data, .data, .data, .data, .sentinel, .sentinel, .pinned], laidTests := true, laidLooks := .later }
def WatchTextsUptoCardSaid : Prop := Claim7.holds Tryz.pinned (.plain (OpenSpec.upto watchTextsSpec)) watchTextsUptoCard
end Rows
end Go.Proofs.YtnnhmgcigoiceaaGreatDoor
