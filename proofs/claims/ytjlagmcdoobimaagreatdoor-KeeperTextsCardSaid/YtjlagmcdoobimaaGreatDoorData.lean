/-
  The structs of the Go text, as products; nothing is claimed here.
-/
import Derived.Test.YtjlagmcdoobimaaGreatDoorPrim
namespace Go.Proofs.YtjlagmcdoobimaaGreatDoor
open Go.Proofs.YtjlagmcdoobimaaGreatDoor.Wh

abbrev S_api_Offer : Type := Int × Int × Int × Int
abbrev S_api_Market : Type := Int × (List S_api_Offer) × (List S_api_Offer)
abbrev S_api_Span : Type := Int × Int
abbrev S_keeper_numbers : Type := (List Int) × (List Int)
abbrev S_keeper_choice : Type := Bool × Int × Int
abbrev S_keeper_want : Type := (Int → Option Bool) × Unit
end Go.Proofs.YtjlagmcdoobimaaGreatDoor
