/-
  The structs of the Go text, as products; nothing is claimed here.
-/
import Derived.Test.YtnnhmgcigoiceaaGreatDoorPrim
namespace Go.Proofs.YtnnhmgcigoiceaaGreatDoor
open Go.Proofs.YtnnhmgcigoiceaaGreatDoor.Wh

abbrev S_api_Turn : Type := Int × Int × Int × Int × Int × Int
abbrev S_api_Roster : Type := Int × Int × Int × (List (List Int)) × (List S_api_Turn)
abbrev S_watch_lag : Type := Int × Bool
abbrev S_watch_bounds : Type := (List Int) × (List Int)
end Go.Proofs.YtnnhmgcigoiceaaGreatDoor
