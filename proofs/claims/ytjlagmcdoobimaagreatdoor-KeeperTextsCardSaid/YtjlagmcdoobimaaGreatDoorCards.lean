/-
  DERIVED. GIVEN WITH THE SEED: THE CARDS: each row of YtjlagmcdoobimaaGreatDoorRows.lean that lists a variable, with what it lists TIED to the program's text (the seventh form; the later family's looks); each row that meets fmt, with fmt's text TOLD by the authors' own Lean function (tested against real Go, not proved from fmt's source: count such statements apart). THE CARD IS WHAT COUNTS. Prove the row's statement (the work); the ties are given (YtjlagmcdoobimaaGreatDoorTie.lean); close each card by the builder's one call (the guide's Derived/Test/ToyasCard.lean, 'card_holds'). Laid BY PROGRAM, IN A SANDBOX (cutbox-door.mjs). By AI agents, Wed Nov 11 2026. No macro, syntax, notation, axiom, sorry.
-/
import Derived.Test.YtjlagmcdoobimaaGreatDoorRows
import GoSem.ClaimSeven
namespace Go.Proofs.YtjlagmcdoobimaaGreatDoor
namespace Rows

/-- THE TIED CARD OF 'waterhourlaw08.KeeperTexts'. -/
def keeperTextsCard : Claim7 := { stood := { row := keeperTextsRow, standIns := [], harness := (true, "a6c55eca5c69feb3220ad23c04f41be2efb000f6a3c7e3fab626ef8757d787bb"), looks := true }, kinds := [], alts := [], laidByText := true, laidKinds := [.data, .data, .data, .data, .sentinel, .sentinel, .pinned], laidTests := true, laidLooks := .later }
def KeeperTextsCardSaid : Prop := Claim7.holds Tryz.pinned (.plain (OpenSpec.ofChange keeperTextsSpec)) keeperTextsCard

/-- THE SECOND FORM's CARD OF 'waterhourlaw08.KeeperTexts'. -/
def keeperTextsUptoCard : Claim7 := { stood := { row := keeperTextsUptoRow, standIns := [], harness := (true, "a6c55eca5c69feb3220ad23c04f41be2efb000f6a3c7e3fab626ef8757d787bb"), looks := true }, kinds := [], alts := [], laidByText := true, laidKinds := [.data, .data, .data, .data, .sentinel, .sentinel, .pinned], laidTests := true, laidLooks := .later }
def KeeperTextsUptoCardSaid : Prop := Claim7.holds Tryz.pinned (.plain (OpenSpec.upto keeperTextsSpec)) keeperTextsUptoCard
end Rows
end Go.Proofs.YtjlagmcdoobimaaGreatDoor
