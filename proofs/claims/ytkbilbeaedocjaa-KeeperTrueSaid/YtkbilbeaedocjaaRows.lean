/-
  No cell of these rows narrows 'for every input' (looked for: loops, veiled, ifaces, maps, wideKeys, modest, calm, conditions, laid).
  DERIVED. THE GIVEN ROWS OF THIS SEAT. 13 by the template 'for every input the law returns true; each argument reads behind the call as it read before'; 0 by the template 'total and deterministic' (their statements: YtkbilbeaedocjaaTotals.lean).
  GIVEN WITH THE SEED: the statements are not yours to turn. If you find one false, say at which input.
  Laid BY PROGRAM, IN A SANDBOX (cutbox-rows.mjs): the forced cells as the released guide's own fill.sh prints them over the translation 56c94f7e29224578… (all of the seat's roots in one cut). By AI agents, Wed Nov 11 2026. No macro, syntax, notation, axiom, sorry.
-/
import Derived.Test.YtkbilbeaedocjaaChecked
import GoSem.Claim
import GoSem.ClaimJoined
import GoSem.ClaimMapViews
import Derived.JoinedTies
import Derived.KernelRfl
namespace Go.Proofs.Ytkbilbeaedocjaa
/- THE CELL 'sum', in the pinned program and in every row, IS THE sha256 OF THE DUMP (.gsa) THAT YtkbilbeaedocjaaProg.lean LOADS. Nothing in Lean hashes anything: it is a label: what it is worth is what the hold of that sum in a sandbox is worth. -/
noncomputable def Try.pinned : Pinned := { name := "ytkbilbeaedocjaa", sum := "56c94f7e29224578ad7c9816ce0295ab211742a2d824d37d8d8b74f6c1800dd0", checked := Try.checked }
namespace Rows
def none {H : Type} : Left H := { results := [], args := [] }

/-- 'waterhourlaw08.KeeperPrices': WHATEVER THE INPUT: true; the input reads as it did. -/
def keeperPricesSpec : ChangeSpec := { name := "keeperPrices", fn := fun _ => fun
  | [d1, d2, d3, d4, d5, d6] => { results := [.lit (.bool true)], args := [d1, d2, d3, d4, d5, d6] }
  | _ => none }
def keeperPricesRow : OpenClaim := { program := "ytkbilbeaedocjaa", sum := "56c94f7e29224578ad7c9816ce0295ab211742a2d824d37d8d8b74f6c1800dd0", func := "waterhour/waterhourlaw08.KeeperPrices", spec := "keeperPrices", unfollowed := true, recurses := true, apart := false }
def KeeperPricesSaid : Prop := keeperPricesRow.holds Try.pinned (OpenSpec.ofChange keeperPricesSpec)

/-- ITS FALSE NEIGHBOUR: 'it returns false'. Refute it at one input. -/
def keeperPricesWrong : ChangeSpec := { name := "keeperPrices", fn := fun _ => fun
  | [d1, d2, d3, d4, d5, d6] => { results := [.lit (.bool false)], args := [d1, d2, d3, d4, d5, d6] }
  | _ => none }
def KeeperPricesWrongFalsely : Prop := keeperPricesRow.holds Try.pinned (OpenSpec.ofChange keeperPricesWrong)

/-- 'waterhourlaw08.KeeperBest': WHATEVER THE INPUT: true; the input reads as it did. -/
def keeperBestSpec : ChangeSpec := { name := "keeperBest", fn := fun _ => fun
  | [d1, d2, d3, d4] => { results := [.lit (.bool true)], args := [d1, d2, d3, d4] }
  | _ => none }
def keeperBestRow : OpenClaim := { program := "ytkbilbeaedocjaa", sum := "56c94f7e29224578ad7c9816ce0295ab211742a2d824d37d8d8b74f6c1800dd0", func := "waterhour/waterhourlaw08.KeeperBest", spec := "keeperBest", unfollowed := true, recurses := true, apart := false }
def KeeperBestSaid : Prop := keeperBestRow.holds Try.pinned (OpenSpec.ofChange keeperBestSpec)

/-- ITS FALSE NEIGHBOUR: 'it returns false'. Refute it at one input. -/
def keeperBestWrong : ChangeSpec := { name := "keeperBest", fn := fun _ => fun
  | [d1, d2, d3, d4] => { results := [.lit (.bool false)], args := [d1, d2, d3, d4] }
  | _ => none }
def KeeperBestWrongFalsely : Prop := keeperBestRow.holds Try.pinned (OpenSpec.ofChange keeperBestWrong)

/-- 'waterhourlaw08.KeeperNamed': WHATEVER THE INPUT: true; the input reads as it did. -/
def keeperNamedSpec : ChangeSpec := { name := "keeperNamed", fn := fun _ => fun
  | [d1, d2, d3, d4, d5, d6] => { results := [.lit (.bool true)], args := [d1, d2, d3, d4, d5, d6] }
  | _ => none }
def keeperNamedRow : OpenClaim := { program := "ytkbilbeaedocjaa", sum := "56c94f7e29224578ad7c9816ce0295ab211742a2d824d37d8d8b74f6c1800dd0", func := "waterhour/waterhourlaw08.KeeperNamed", spec := "keeperNamed", unfollowed := true, recurses := true, apart := false }
def KeeperNamedSaid : Prop := keeperNamedRow.holds Try.pinned (OpenSpec.ofChange keeperNamedSpec)

/-- ITS FALSE NEIGHBOUR: 'it returns false'. Refute it at one input. -/
def keeperNamedWrong : ChangeSpec := { name := "keeperNamed", fn := fun _ => fun
  | [d1, d2, d3, d4, d5, d6] => { results := [.lit (.bool false)], args := [d1, d2, d3, d4, d5, d6] }
  | _ => none }
def KeeperNamedWrongFalsely : Prop := keeperNamedRow.holds Try.pinned (OpenSpec.ofChange keeperNamedWrong)

/-- 'waterhourlaw08.KeeperCheapest': WHATEVER THE INPUT: true; the input reads as it did. -/
def keeperCheapestSpec : ChangeSpec := { name := "keeperCheapest", fn := fun _ => fun
  | [d1, d2, d3, d4, d5] => { results := [.lit (.bool true)], args := [d1, d2, d3, d4, d5] }
  | _ => none }
def keeperCheapestRow : OpenClaim := { program := "ytkbilbeaedocjaa", sum := "56c94f7e29224578ad7c9816ce0295ab211742a2d824d37d8d8b74f6c1800dd0", func := "waterhour/waterhourlaw08.KeeperCheapest", spec := "keeperCheapest", unfollowed := true, recurses := true, apart := false }
def KeeperCheapestSaid : Prop := keeperCheapestRow.holds Try.pinned (OpenSpec.ofChange keeperCheapestSpec)

/-- ITS FALSE NEIGHBOUR: 'it returns false'. Refute it at one input. -/
def keeperCheapestWrong : ChangeSpec := { name := "keeperCheapest", fn := fun _ => fun
  | [d1, d2, d3, d4, d5] => { results := [.lit (.bool false)], args := [d1, d2, d3, d4, d5] }
  | _ => none }
def KeeperCheapestWrongFalsely : Prop := keeperCheapestRow.holds Try.pinned (OpenSpec.ofChange keeperCheapestWrong)

/-- 'waterhourlaw08.KeeperScaled': WHATEVER THE INPUT: true; the input reads as it did. -/
def keeperScaledSpec : ChangeSpec := { name := "keeperScaled", fn := fun _ => fun
  | [d1, d2, d3, d4, d5, d6, d7] => { results := [.lit (.bool true)], args := [d1, d2, d3, d4, d5, d6, d7] }
  | _ => none }
def keeperScaledRow : OpenClaim := { program := "ytkbilbeaedocjaa", sum := "56c94f7e29224578ad7c9816ce0295ab211742a2d824d37d8d8b74f6c1800dd0", func := "waterhour/waterhourlaw08.KeeperScaled", spec := "keeperScaled", unfollowed := true, recurses := true, apart := false }
def KeeperScaledSaid : Prop := keeperScaledRow.holds Try.pinned (OpenSpec.ofChange keeperScaledSpec)

/-- ITS FALSE NEIGHBOUR: 'it returns false'. Refute it at one input. -/
def keeperScaledWrong : ChangeSpec := { name := "keeperScaled", fn := fun _ => fun
  | [d1, d2, d3, d4, d5, d6, d7] => { results := [.lit (.bool false)], args := [d1, d2, d3, d4, d5, d6, d7] }
  | _ => none }
def KeeperScaledWrongFalsely : Prop := keeperScaledRow.holds Try.pinned (OpenSpec.ofChange keeperScaledWrong)

/-- 'waterhourlaw08.KeeperFollows': WHATEVER THE INPUT: true; the input reads as it did. -/
def keeperFollowsSpec : ChangeSpec := { name := "keeperFollows", fn := fun _ => fun
  | [d1, d2] => { results := [.lit (.bool true)], args := [d1, d2] }
  | _ => none }
def keeperFollowsRow : OpenClaim := { program := "ytkbilbeaedocjaa", sum := "56c94f7e29224578ad7c9816ce0295ab211742a2d824d37d8d8b74f6c1800dd0", func := "waterhour/waterhourlaw08.KeeperFollows", spec := "keeperFollows", unfollowed := true, recurses := true, apart := false }
def KeeperFollowsSaid : Prop := keeperFollowsRow.holds Try.pinned (OpenSpec.ofChange keeperFollowsSpec)

/-- ITS FALSE NEIGHBOUR: 'it returns false'. Refute it at one input. -/
def keeperFollowsWrong : ChangeSpec := { name := "keeperFollows", fn := fun _ => fun
  | [d1, d2] => { results := [.lit (.bool false)], args := [d1, d2] }
  | _ => none }
def KeeperFollowsWrongFalsely : Prop := keeperFollowsRow.holds Try.pinned (OpenSpec.ofChange keeperFollowsWrong)

/-- 'waterhourlaw08.KeeperAll': WHATEVER THE INPUT: true; the input reads as it did. -/
def keeperAllSpec : ChangeSpec := { name := "keeperAll", fn := fun _ => fun
  | [d1, d2, d3, d4] => { results := [.lit (.bool true)], args := [d1, d2, d3, d4] }
  | _ => none }
def keeperAllRow : OpenClaim := { program := "ytkbilbeaedocjaa", sum := "56c94f7e29224578ad7c9816ce0295ab211742a2d824d37d8d8b74f6c1800dd0", func := "waterhour/waterhourlaw08.KeeperAll", spec := "keeperAll", unfollowed := true, recurses := true, apart := false }
def KeeperAllSaid : Prop := keeperAllRow.holds Try.pinned (OpenSpec.ofChange keeperAllSpec)

/-- ITS FALSE NEIGHBOUR: 'it returns false'. Refute it at one input. -/
def keeperAllWrong : ChangeSpec := { name := "keeperAll", fn := fun _ => fun
  | [d1, d2, d3, d4] => { results := [.lit (.bool false)], args := [d1, d2, d3, d4] }
  | _ => none }
def KeeperAllWrongFalsely : Prop := keeperAllRow.holds Try.pinned (OpenSpec.ofChange keeperAllWrong)

/-- 'waterhourlaw08.KeeperWorth': WHATEVER THE INPUT: true; the input reads as it did. -/
def keeperWorthSpec : ChangeSpec := { name := "keeperWorth", fn := fun _ => fun
  | [d1, d2, d3, d4, d5] => { results := [.lit (.bool true)], args := [d1, d2, d3, d4, d5] }
  | _ => none }
def keeperWorthRow : OpenClaim := { program := "ytkbilbeaedocjaa", sum := "56c94f7e29224578ad7c9816ce0295ab211742a2d824d37d8d8b74f6c1800dd0", func := "waterhour/waterhourlaw08.KeeperWorth", spec := "keeperWorth", unfollowed := true, recurses := true, apart := false }
def KeeperWorthSaid : Prop := keeperWorthRow.holds Try.pinned (OpenSpec.ofChange keeperWorthSpec)

/-- ITS FALSE NEIGHBOUR: 'it returns false'. Refute it at one input. -/
def keeperWorthWrong : ChangeSpec := { name := "keeperWorth", fn := fun _ => fun
  | [d1, d2, d3, d4, d5] => { results := [.lit (.bool false)], args := [d1, d2, d3, d4, d5] }
  | _ => none }
def KeeperWorthWrongFalsely : Prop := keeperWorthRow.holds Try.pinned (OpenSpec.ofChange keeperWorthWrong)

/-- 'waterhourlaw08.KeeperFronts': WHATEVER THE INPUT: true; the input reads as it did. -/
def keeperFrontsSpec : ChangeSpec := { name := "keeperFronts", fn := fun _ => fun
  | [d1, d2, d3] => { results := [.lit (.bool true)], args := [d1, d2, d3] }
  | _ => none }
def keeperFrontsRow : OpenClaim := { program := "ytkbilbeaedocjaa", sum := "56c94f7e29224578ad7c9816ce0295ab211742a2d824d37d8d8b74f6c1800dd0", func := "waterhour/waterhourlaw08.KeeperFronts", spec := "keeperFronts", unfollowed := true, recurses := true, apart := false }
def KeeperFrontsSaid : Prop := keeperFrontsRow.holds Try.pinned (OpenSpec.ofChange keeperFrontsSpec)

/-- ITS FALSE NEIGHBOUR: 'it returns false'. Refute it at one input. -/
def keeperFrontsWrong : ChangeSpec := { name := "keeperFronts", fn := fun _ => fun
  | [d1, d2, d3] => { results := [.lit (.bool false)], args := [d1, d2, d3] }
  | _ => none }
def KeeperFrontsWrongFalsely : Prop := keeperFrontsRow.holds Try.pinned (OpenSpec.ofChange keeperFrontsWrong)

/-- 'waterhourlaw08.KeeperForms': WHATEVER THE INPUT: true; the input reads as it did. -/
def keeperFormsSpec : ChangeSpec := { name := "keeperForms", fn := fun _ => fun
  | [d1, d2, d3, d4] => { results := [.lit (.bool true)], args := [d1, d2, d3, d4] }
  | _ => none }
def keeperFormsRow : OpenClaim := { program := "ytkbilbeaedocjaa", sum := "56c94f7e29224578ad7c9816ce0295ab211742a2d824d37d8d8b74f6c1800dd0", func := "waterhour/waterhourlaw08.KeeperForms", spec := "keeperForms", unfollowed := true, recurses := true, apart := false }
def KeeperFormsSaid : Prop := keeperFormsRow.holds Try.pinned (OpenSpec.ofChange keeperFormsSpec)

/-- ITS FALSE NEIGHBOUR: 'it returns false'. Refute it at one input. -/
def keeperFormsWrong : ChangeSpec := { name := "keeperForms", fn := fun _ => fun
  | [d1, d2, d3, d4] => { results := [.lit (.bool false)], args := [d1, d2, d3, d4] }
  | _ => none }
def KeeperFormsWrongFalsely : Prop := keeperFormsRow.holds Try.pinned (OpenSpec.ofChange keeperFormsWrong)

/-- 'waterhourlaw08.KeeperShown': WHATEVER THE INPUT: true; the input reads as it did. -/
def keeperShownSpec : ChangeSpec := { name := "keeperShown", fn := fun _ => fun
  | [d1, d2, d3, d4, d5, d6] => { results := [.lit (.bool true)], args := [d1, d2, d3, d4, d5, d6] }
  | _ => none }
def keeperShownRow : OpenClaim := { program := "ytkbilbeaedocjaa", sum := "56c94f7e29224578ad7c9816ce0295ab211742a2d824d37d8d8b74f6c1800dd0", func := "waterhour/waterhourlaw08.KeeperShown", spec := "keeperShown", unfollowed := true, recurses := true, apart := false }
def KeeperShownSaid : Prop := keeperShownRow.holds Try.pinned (OpenSpec.ofChange keeperShownSpec)

/-- ITS FALSE NEIGHBOUR: 'it returns false'. Refute it at one input. -/
def keeperShownWrong : ChangeSpec := { name := "keeperShown", fn := fun _ => fun
  | [d1, d2, d3, d4, d5, d6] => { results := [.lit (.bool false)], args := [d1, d2, d3, d4, d5, d6] }
  | _ => none }
def KeeperShownWrongFalsely : Prop := keeperShownRow.holds Try.pinned (OpenSpec.ofChange keeperShownWrong)

/-- 'waterhourlaw08.KeeperPaths': WHATEVER THE INPUT: true; the input reads as it did. -/
def keeperPathsSpec : ChangeSpec := { name := "keeperPaths", fn := fun _ => fun
  | [d1, d2, d3, d4, d5, d6] => { results := [.lit (.bool true)], args := [d1, d2, d3, d4, d5, d6] }
  | _ => none }
def keeperPathsRow : OpenClaim := { program := "ytkbilbeaedocjaa", sum := "56c94f7e29224578ad7c9816ce0295ab211742a2d824d37d8d8b74f6c1800dd0", func := "waterhour/waterhourlaw08.KeeperPaths", spec := "keeperPaths", unfollowed := true, recurses := true, apart := false }
def KeeperPathsSaid : Prop := keeperPathsRow.holds Try.pinned (OpenSpec.ofChange keeperPathsSpec)

/-- ITS FALSE NEIGHBOUR: 'it returns false'. Refute it at one input. -/
def keeperPathsWrong : ChangeSpec := { name := "keeperPaths", fn := fun _ => fun
  | [d1, d2, d3, d4, d5, d6] => { results := [.lit (.bool false)], args := [d1, d2, d3, d4, d5, d6] }
  | _ => none }
def KeeperPathsWrongFalsely : Prop := keeperPathsRow.holds Try.pinned (OpenSpec.ofChange keeperPathsWrong)

/-- 'waterhourlaw08.KeeperTrue': WHATEVER THE INPUT: true; the input reads as it did. -/
def keeperTrueSpec : ChangeSpec := { name := "keeperTrue", fn := fun _ => fun
  | [d1, d2, d3, d4, d5, d6, d7, d8] => { results := [.lit (.bool true)], args := [d1, d2, d3, d4, d5, d6, d7, d8] }
  | _ => none }
def keeperTrueRow : OpenClaim := { program := "ytkbilbeaedocjaa", sum := "56c94f7e29224578ad7c9816ce0295ab211742a2d824d37d8d8b74f6c1800dd0", func := "waterhour/waterhourlaw08.KeeperTrue", spec := "keeperTrue", unfollowed := true, recurses := true, apart := false }
def KeeperTrueSaid : Prop := keeperTrueRow.holds Try.pinned (OpenSpec.ofChange keeperTrueSpec)

/-- ITS FALSE NEIGHBOUR: 'it returns false'. Refute it at one input. -/
def keeperTrueWrong : ChangeSpec := { name := "keeperTrue", fn := fun _ => fun
  | [d1, d2, d3, d4, d5, d6, d7, d8] => { results := [.lit (.bool false)], args := [d1, d2, d3, d4, d5, d6, d7, d8] }
  | _ => none }
def KeeperTrueWrongFalsely : Prop := keeperTrueRow.holds Try.pinned (OpenSpec.ofChange keeperTrueWrong)

/- THE SECOND FORM. 'bulk': how many values and letters a reading holds, each counted each time it is reached (what is shared counts as often as it is met; a slice's spare places count too). A statement '..UptoSaid' is the law's where the arguments, and the package variables that the reading takes, are together of bulk at most 1048576: NARROWER than '..Said'. Prove '..Said' where nothing that the law and all that it calls make is longer than what came in: it says more and counts as full. Else prove '..UptoSaid'. A law counts once. -/
mutual
def uptoBulk {H : Type} : DataW H → Nat
  | .lit (.string bytes) => bytes.length + 1
  | .lit _ => 1
  | .nil => 1
  | .ptr d => uptoBulk d + 1
  | .slice elems spare => uptoBulkAll elems + uptoBulkAll spare + 1
  | .agg parts => uptoBulkAll parts + 1
  | .iface _ d => uptoBulk d + 1
  | .map entries => uptoBulkEntries entries + 1
  | .held _ => 1
def uptoBulkAll {H : Type} : List (DataW H) → Nat
  | [] => 0
  | d :: r => uptoBulk d + uptoBulkAll r
def uptoBulkEntries {H : Type} : List (Lit × DataW H) → Nat
  | [] => 0
  | x :: r => uptoBulkEntry x + uptoBulkEntries r
def uptoBulkEntry {H : Type} : Lit × DataW H → Nat
  | (.string bytes, d) => bytes.length + uptoBulk d + 1
  | (_, d) => uptoBulk d + 1
 end
def uptoSmall : (H : Type) → List (DataW H) → Bool := fun _ ds => decide (uptoBulkAll ds ≤ 1048576)
def OpenSpec.upto (s : _root_.Go.ChangeSpec) : _root_.Go.OpenSpec := { _root_.Go.OpenSpec.ofChange s with cond := some uptoSmall }

/-- 'waterhourlaw08.KeeperPrices', WHERE WHAT IT READS IS OF BULK AT MOST 1048576: true; the input reads as it did. -/
def keeperPricesUptoRow : OpenClaim := { program := "ytkbilbeaedocjaa", sum := "56c94f7e29224578ad7c9816ce0295ab211742a2d824d37d8d8b74f6c1800dd0", func := "waterhour/waterhourlaw08.KeeperPrices", spec := "keeperPrices", unfollowed := true, recurses := true, apart := false, narrowed := true }
def KeeperPricesUptoSaid : Prop := keeperPricesUptoRow.holds Try.pinned (OpenSpec.upto keeperPricesSpec)

/-- 'waterhourlaw08.KeeperBest', WHERE WHAT IT READS IS OF BULK AT MOST 1048576: true; the input reads as it did. -/
def keeperBestUptoRow : OpenClaim := { program := "ytkbilbeaedocjaa", sum := "56c94f7e29224578ad7c9816ce0295ab211742a2d824d37d8d8b74f6c1800dd0", func := "waterhour/waterhourlaw08.KeeperBest", spec := "keeperBest", unfollowed := true, recurses := true, apart := false, narrowed := true }
def KeeperBestUptoSaid : Prop := keeperBestUptoRow.holds Try.pinned (OpenSpec.upto keeperBestSpec)

/-- 'waterhourlaw08.KeeperNamed', WHERE WHAT IT READS IS OF BULK AT MOST 1048576: true; the input reads as it did. -/
def keeperNamedUptoRow : OpenClaim := { program := "ytkbilbeaedocjaa", sum := "56c94f7e29224578ad7c9816ce0295ab211742a2d824d37d8d8b74f6c1800dd0", func := "waterhour/waterhourlaw08.KeeperNamed", spec := "keeperNamed", unfollowed := true, recurses := true, apart := false, narrowed := true }
def KeeperNamedUptoSaid : Prop := keeperNamedUptoRow.holds Try.pinned (OpenSpec.upto keeperNamedSpec)

/-- 'waterhourlaw08.KeeperCheapest', WHERE WHAT IT READS IS OF BULK AT MOST 1048576: true; the input reads as it did. -/
def keeperCheapestUptoRow : OpenClaim := { program := "ytkbilbeaedocjaa", sum := "56c94f7e29224578ad7c9816ce0295ab211742a2d824d37d8d8b74f6c1800dd0", func := "waterhour/waterhourlaw08.KeeperCheapest", spec := "keeperCheapest", unfollowed := true, recurses := true, apart := false, narrowed := true }
def KeeperCheapestUptoSaid : Prop := keeperCheapestUptoRow.holds Try.pinned (OpenSpec.upto keeperCheapestSpec)

/-- 'waterhourlaw08.KeeperScaled', WHERE WHAT IT READS IS OF BULK AT MOST 1048576: true; the input reads as it did. -/
def keeperScaledUptoRow : OpenClaim := { program := "ytkbilbeaedocjaa", sum := "56c94f7e29224578ad7c9816ce0295ab211742a2d824d37d8d8b74f6c1800dd0", func := "waterhour/waterhourlaw08.KeeperScaled", spec := "keeperScaled", unfollowed := true, recurses := true, apart := false, narrowed := true }
def KeeperScaledUptoSaid : Prop := keeperScaledUptoRow.holds Try.pinned (OpenSpec.upto keeperScaledSpec)

/-- 'waterhourlaw08.KeeperFollows', WHERE WHAT IT READS IS OF BULK AT MOST 1048576: true; the input reads as it did. -/
def keeperFollowsUptoRow : OpenClaim := { program := "ytkbilbeaedocjaa", sum := "56c94f7e29224578ad7c9816ce0295ab211742a2d824d37d8d8b74f6c1800dd0", func := "waterhour/waterhourlaw08.KeeperFollows", spec := "keeperFollows", unfollowed := true, recurses := true, apart := false, narrowed := true }
def KeeperFollowsUptoSaid : Prop := keeperFollowsUptoRow.holds Try.pinned (OpenSpec.upto keeperFollowsSpec)

/-- 'waterhourlaw08.KeeperAll', WHERE WHAT IT READS IS OF BULK AT MOST 1048576: true; the input reads as it did. -/
def keeperAllUptoRow : OpenClaim := { program := "ytkbilbeaedocjaa", sum := "56c94f7e29224578ad7c9816ce0295ab211742a2d824d37d8d8b74f6c1800dd0", func := "waterhour/waterhourlaw08.KeeperAll", spec := "keeperAll", unfollowed := true, recurses := true, apart := false, narrowed := true }
def KeeperAllUptoSaid : Prop := keeperAllUptoRow.holds Try.pinned (OpenSpec.upto keeperAllSpec)

/-- 'waterhourlaw08.KeeperWorth', WHERE WHAT IT READS IS OF BULK AT MOST 1048576: true; the input reads as it did. -/
def keeperWorthUptoRow : OpenClaim := { program := "ytkbilbeaedocjaa", sum := "56c94f7e29224578ad7c9816ce0295ab211742a2d824d37d8d8b74f6c1800dd0", func := "waterhour/waterhourlaw08.KeeperWorth", spec := "keeperWorth", unfollowed := true, recurses := true, apart := false, narrowed := true }
def KeeperWorthUptoSaid : Prop := keeperWorthUptoRow.holds Try.pinned (OpenSpec.upto keeperWorthSpec)

/-- 'waterhourlaw08.KeeperFronts', WHERE WHAT IT READS IS OF BULK AT MOST 1048576: true; the input reads as it did. -/
def keeperFrontsUptoRow : OpenClaim := { program := "ytkbilbeaedocjaa", sum := "56c94f7e29224578ad7c9816ce0295ab211742a2d824d37d8d8b74f6c1800dd0", func := "waterhour/waterhourlaw08.KeeperFronts", spec := "keeperFronts", unfollowed := true, recurses := true, apart := false, narrowed := true }
def KeeperFrontsUptoSaid : Prop := keeperFrontsUptoRow.holds Try.pinned (OpenSpec.upto keeperFrontsSpec)

/-- 'waterhourlaw08.KeeperForms', WHERE WHAT IT READS IS OF BULK AT MOST 1048576: true; the input reads as it did. -/
def keeperFormsUptoRow : OpenClaim := { program := "ytkbilbeaedocjaa", sum := "56c94f7e29224578ad7c9816ce0295ab211742a2d824d37d8d8b74f6c1800dd0", func := "waterhour/waterhourlaw08.KeeperForms", spec := "keeperForms", unfollowed := true, recurses := true, apart := false, narrowed := true }
def KeeperFormsUptoSaid : Prop := keeperFormsUptoRow.holds Try.pinned (OpenSpec.upto keeperFormsSpec)

/-- 'waterhourlaw08.KeeperShown', WHERE WHAT IT READS IS OF BULK AT MOST 1048576: true; the input reads as it did. -/
def keeperShownUptoRow : OpenClaim := { program := "ytkbilbeaedocjaa", sum := "56c94f7e29224578ad7c9816ce0295ab211742a2d824d37d8d8b74f6c1800dd0", func := "waterhour/waterhourlaw08.KeeperShown", spec := "keeperShown", unfollowed := true, recurses := true, apart := false, narrowed := true }
def KeeperShownUptoSaid : Prop := keeperShownUptoRow.holds Try.pinned (OpenSpec.upto keeperShownSpec)

/-- 'waterhourlaw08.KeeperPaths', WHERE WHAT IT READS IS OF BULK AT MOST 1048576: true; the input reads as it did. -/
def keeperPathsUptoRow : OpenClaim := { program := "ytkbilbeaedocjaa", sum := "56c94f7e29224578ad7c9816ce0295ab211742a2d824d37d8d8b74f6c1800dd0", func := "waterhour/waterhourlaw08.KeeperPaths", spec := "keeperPaths", unfollowed := true, recurses := true, apart := false, narrowed := true }
def KeeperPathsUptoSaid : Prop := keeperPathsUptoRow.holds Try.pinned (OpenSpec.upto keeperPathsSpec)

/-- 'waterhourlaw08.KeeperTrue', WHERE WHAT IT READS IS OF BULK AT MOST 1048576: true; the input reads as it did. -/
def keeperTrueUptoRow : OpenClaim := { program := "ytkbilbeaedocjaa", sum := "56c94f7e29224578ad7c9816ce0295ab211742a2d824d37d8d8b74f6c1800dd0", func := "waterhour/waterhourlaw08.KeeperTrue", spec := "keeperTrue", unfollowed := true, recurses := true, apart := false, narrowed := true }
def KeeperTrueUptoSaid : Prop := keeperTrueUptoRow.holds Try.pinned (OpenSpec.upto keeperTrueSpec)

end Rows
end Go.Proofs.Ytkbilbeaedocjaa
