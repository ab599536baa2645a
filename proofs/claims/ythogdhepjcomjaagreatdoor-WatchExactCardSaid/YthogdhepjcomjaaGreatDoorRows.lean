/-
  NARROWER THAN 'FOR EVERY INPUT', by the rows' own cells (each row's printed sentence says how): WatchProofs: laid · WatchBare: laid · WatchEither: laid · WatchSure: laid · WatchMoved: laid · WatchNever: laid · WatchTurns: laid · WatchNeeds: laid · WatchLeast: laid · WatchExact: laid · WatchShorter: laid · WatchLacking: laid · WatchPlans: laid.
  DERIVED. THE GIVEN ROWS OF THIS SEAT. 13 by the template 'for every input the law returns true; each argument reads behind the call as it read before'; 0 by the template 'total and deterministic' (their statements: YthogdhepjcomjaaGreatDoorTotals.lean).
  GIVEN WITH THE SEED: the statements are not yours to turn. If you find one false, say at which input.
  Laid BY PROGRAM, IN A SANDBOX (cutbox-rows.mjs): the forced cells as the released guide's own fill.sh prints them over the translation ff39853ee87c7ec5… (all of the seat's roots in one cut). By AI agents, Wed Nov 11 2026. No macro, syntax, notation, axiom, sorry.
-/
import Derived.Test.YthogdhepjcomjaaGreatDoorChecked
import GoSem.Claim
import GoSem.ClaimJoined
import GoSem.ClaimMapViews
import Derived.JoinedTies
import Derived.KernelRfl
namespace Go.Proofs.YthogdhepjcomjaaGreatDoor
/- THE CELL 'sum', in the pinned program and in every row, IS THE sha256 OF THE DUMP (.gsa) THAT YthogdhepjcomjaaGreatDoorProg.lean LOADS. Nothing in Lean hashes anything: it is a label: what it is worth is what the hold of that sum in a sandbox is worth. -/
noncomputable def Tryz.pinned : Pinned := { name := "ythogdhepjcomjaagreatdoor", sum := "ff39853ee87c7ec525055da96ff0b99fe024743748b47be83afb38b4259c411d", checked := Tryz.checked }
namespace Rows
def none {H : Type} : Left H := { results := [], args := [] }

/- WHAT THE LISTED PACKAGE-LEVEL VARIABLES READ AS WHEN THE CALL BEGINS. Each datum BY PROGRAM (the guide's laid-datum.mjs) off the statement by which the dump's own 'gosem.cut.vars' lays the variable. In a bare row this is a premise. The card (YthogdhepjcomjaaGreatDoorCards.lean) ties it to the program's text. -/
def laid_math_bits_deBruijn32tab {H : Type} : DataW H := .agg [.lit (.int .u8 0), .lit (.int .u8 1), .lit (.int .u8 28), .lit (.int .u8 2), .lit (.int .u8 29), .lit (.int .u8 14), .lit (.int .u8 24), .lit (.int .u8 3), .lit (.int .u8 30), .lit (.int .u8 22), .lit (.int .u8 20), .lit (.int .u8 15), .lit (.int .u8 25), .lit (.int .u8 17), .lit (.int .u8 4), .lit (.int .u8 8), .lit (.int .u8 31), .lit (.int .u8 27), .lit (.int .u8 13), .lit (.int .u8 23), .lit (.int .u8 21), .lit (.int .u8 19), .lit (.int .u8 16), .lit (.int .u8 7), .lit (.int .u8 26), .lit (.int .u8 12), .lit (.int .u8 18), .lit (.int .u8 6), .lit (.int .u8 11), .lit (.int .u8 5), .lit (.int .u8 10), .lit (.int .u8 9)]
def laid_math_bits_deBruijn64tab {H : Type} : DataW H := .agg [.lit (.int .u8 0), .lit (.int .u8 1), .lit (.int .u8 56), .lit (.int .u8 2), .lit (.int .u8 57), .lit (.int .u8 49), .lit (.int .u8 28), .lit (.int .u8 3), .lit (.int .u8 61), .lit (.int .u8 58), .lit (.int .u8 42), .lit (.int .u8 50), .lit (.int .u8 38), .lit (.int .u8 29), .lit (.int .u8 17), .lit (.int .u8 4), .lit (.int .u8 62), .lit (.int .u8 47), .lit (.int .u8 59), .lit (.int .u8 36), .lit (.int .u8 45), .lit (.int .u8 43), .lit (.int .u8 51), .lit (.int .u8 22), .lit (.int .u8 53), .lit (.int .u8 39), .lit (.int .u8 33), .lit (.int .u8 30), .lit (.int .u8 24), .lit (.int .u8 18), .lit (.int .u8 12), .lit (.int .u8 5), .lit (.int .u8 63), .lit (.int .u8 55), .lit (.int .u8 48), .lit (.int .u8 27), .lit (.int .u8 60), .lit (.int .u8 41), .lit (.int .u8 37), .lit (.int .u8 16), .lit (.int .u8 46), .lit (.int .u8 35), .lit (.int .u8 44), .lit (.int .u8 21), .lit (.int .u8 52), .lit (.int .u8 32), .lit (.int .u8 23), .lit (.int .u8 11), .lit (.int .u8 54), .lit (.int .u8 26), .lit (.int .u8 40), .lit (.int .u8 15), .lit (.int .u8 34), .lit (.int .u8 20), .lit (.int .u8 31), .lit (.int .u8 10), .lit (.int .u8 25), .lit (.int .u8 14), .lit (.int .u8 19), .lit (.int .u8 9), .lit (.int .u8 13), .lit (.int .u8 8), .lit (.int .u8 7), .lit (.int .u8 6)]
def laid_internal_strconv_uint64pow10 {H : Type} : DataW H := .agg [.lit (.int .u64 1), .lit (.int .u64 10), .lit (.int .u64 100), .lit (.int .u64 1000), .lit (.int .u64 10000), .lit (.int .u64 100000), .lit (.int .u64 1000000), .lit (.int .u64 10000000), .lit (.int .u64 100000000), .lit (.int .u64 1000000000), .lit (.int .u64 10000000000), .lit (.int .u64 100000000000), .lit (.int .u64 1000000000000), .lit (.int .u64 10000000000000), .lit (.int .u64 100000000000000), .lit (.int .u64 1000000000000000), .lit (.int .u64 10000000000000000), .lit (.int .u64 100000000000000000), .lit (.int .u64 1000000000000000000), .lit (.int .u64 10000000000000000000)]

/-- 'waterhourlaw07.WatchProofs': WHATEVER THE INPUT: true; the input reads as it did. -/
def watchProofsSpec : ChangeSpec := { name := "watchProofs", fn := fun _ => fun
  | [d1, d2, d3, d4, d5] => { results := [.lit (.bool true)], args := [d1, d2, d3, d4, d5] }
  | _ => none }
def watchProofsRow : OpenClaim := { program := "ythogdhepjcomjaagreatdoor", sum := "ff39853ee87c7ec525055da96ff0b99fe024743748b47be83afb38b4259c411d", func := "waterhour/waterhourlaw07.WatchProofs", spec := "watchProofs", inPlace := ["internal/abi.NoEscape", "internal/bytealg.MakeNoZero"], unfollowed := true, recurses := true, named := ["internal/strconv.uint64pow10", "math/bits.deBruijn32tab", "math/bits.deBruijn64tab"], apart := false, laid := [("math/bits.deBruijn32tab", laid_math_bits_deBruijn32tab), ("math/bits.deBruijn64tab", laid_math_bits_deBruijn64tab), ("internal/strconv.uint64pow10", laid_internal_strconv_uint64pow10)] }
def WatchProofsSaid : Prop := watchProofsRow.holds Tryz.pinned (OpenSpec.ofChange watchProofsSpec)

/-- ITS FALSE NEIGHBOUR: 'it returns false'. Refute it at one input. -/
def watchProofsWrong : ChangeSpec := { name := "watchProofs", fn := fun _ => fun
  | [d1, d2, d3, d4, d5] => { results := [.lit (.bool false)], args := [d1, d2, d3, d4, d5] }
  | _ => none }
def WatchProofsWrongFalsely : Prop := watchProofsRow.holds Tryz.pinned (OpenSpec.ofChange watchProofsWrong)

/-- 'waterhourlaw07.WatchBare': WHATEVER THE INPUT: true; the input reads as it did. -/
def watchBareSpec : ChangeSpec := { name := "watchBare", fn := fun _ => fun
  | [d1, d2, d3, d4] => { results := [.lit (.bool true)], args := [d1, d2, d3, d4] }
  | _ => none }
def watchBareRow : OpenClaim := { program := "ythogdhepjcomjaagreatdoor", sum := "ff39853ee87c7ec525055da96ff0b99fe024743748b47be83afb38b4259c411d", func := "waterhour/waterhourlaw07.WatchBare", spec := "watchBare", inPlace := ["internal/abi.NoEscape", "internal/bytealg.MakeNoZero"], unfollowed := true, recurses := true, named := ["internal/strconv.uint64pow10", "math/bits.deBruijn32tab", "math/bits.deBruijn64tab"], apart := false, laid := [("math/bits.deBruijn32tab", laid_math_bits_deBruijn32tab), ("math/bits.deBruijn64tab", laid_math_bits_deBruijn64tab), ("internal/strconv.uint64pow10", laid_internal_strconv_uint64pow10)] }
def WatchBareSaid : Prop := watchBareRow.holds Tryz.pinned (OpenSpec.ofChange watchBareSpec)

/-- ITS FALSE NEIGHBOUR: 'it returns false'. Refute it at one input. -/
def watchBareWrong : ChangeSpec := { name := "watchBare", fn := fun _ => fun
  | [d1, d2, d3, d4] => { results := [.lit (.bool false)], args := [d1, d2, d3, d4] }
  | _ => none }
def WatchBareWrongFalsely : Prop := watchBareRow.holds Tryz.pinned (OpenSpec.ofChange watchBareWrong)

/-- 'waterhourlaw07.WatchEither': WHATEVER THE INPUT: true; the input reads as it did. -/
def watchEitherSpec : ChangeSpec := { name := "watchEither", fn := fun _ => fun
  | [d1, d2, d3, d4] => { results := [.lit (.bool true)], args := [d1, d2, d3, d4] }
  | _ => none }
def watchEitherRow : OpenClaim := { program := "ythogdhepjcomjaagreatdoor", sum := "ff39853ee87c7ec525055da96ff0b99fe024743748b47be83afb38b4259c411d", func := "waterhour/waterhourlaw07.WatchEither", spec := "watchEither", inPlace := ["internal/abi.NoEscape", "internal/bytealg.MakeNoZero"], unfollowed := true, recurses := true, named := ["internal/strconv.uint64pow10", "math/bits.deBruijn32tab", "math/bits.deBruijn64tab"], apart := false, laid := [("math/bits.deBruijn32tab", laid_math_bits_deBruijn32tab), ("math/bits.deBruijn64tab", laid_math_bits_deBruijn64tab), ("internal/strconv.uint64pow10", laid_internal_strconv_uint64pow10)] }
def WatchEitherSaid : Prop := watchEitherRow.holds Tryz.pinned (OpenSpec.ofChange watchEitherSpec)

/-- ITS FALSE NEIGHBOUR: 'it returns false'. Refute it at one input. -/
def watchEitherWrong : ChangeSpec := { name := "watchEither", fn := fun _ => fun
  | [d1, d2, d3, d4] => { results := [.lit (.bool false)], args := [d1, d2, d3, d4] }
  | _ => none }
def WatchEitherWrongFalsely : Prop := watchEitherRow.holds Tryz.pinned (OpenSpec.ofChange watchEitherWrong)

/-- 'waterhourlaw07.WatchSure': WHATEVER THE INPUT: true; the input reads as it did. -/
def watchSureSpec : ChangeSpec := { name := "watchSure", fn := fun _ => fun
  | [d1, d2, d3, d4] => { results := [.lit (.bool true)], args := [d1, d2, d3, d4] }
  | _ => none }
def watchSureRow : OpenClaim := { program := "ythogdhepjcomjaagreatdoor", sum := "ff39853ee87c7ec525055da96ff0b99fe024743748b47be83afb38b4259c411d", func := "waterhour/waterhourlaw07.WatchSure", spec := "watchSure", inPlace := ["internal/abi.NoEscape", "internal/bytealg.MakeNoZero"], unfollowed := true, recurses := true, named := ["internal/strconv.uint64pow10", "math/bits.deBruijn32tab", "math/bits.deBruijn64tab"], apart := false, laid := [("math/bits.deBruijn32tab", laid_math_bits_deBruijn32tab), ("math/bits.deBruijn64tab", laid_math_bits_deBruijn64tab), ("internal/strconv.uint64pow10", laid_internal_strconv_uint64pow10)] }
def WatchSureSaid : Prop := watchSureRow.holds Tryz.pinned (OpenSpec.ofChange watchSureSpec)

/-- ITS FALSE NEIGHBOUR: 'it returns false'. Refute it at one input. -/
def watchSureWrong : ChangeSpec := { name := "watchSure", fn := fun _ => fun
  | [d1, d2, d3, d4] => { results := [.lit (.bool false)], args := [d1, d2, d3, d4] }
  | _ => none }
def WatchSureWrongFalsely : Prop := watchSureRow.holds Tryz.pinned (OpenSpec.ofChange watchSureWrong)

/-- 'waterhourlaw07.WatchMoved': WHATEVER THE INPUT: true; the input reads as it did. -/
def watchMovedSpec : ChangeSpec := { name := "watchMoved", fn := fun _ => fun
  | [d1, d2, d3, d4, d5] => { results := [.lit (.bool true)], args := [d1, d2, d3, d4, d5] }
  | _ => none }
def watchMovedRow : OpenClaim := { program := "ythogdhepjcomjaagreatdoor", sum := "ff39853ee87c7ec525055da96ff0b99fe024743748b47be83afb38b4259c411d", func := "waterhour/waterhourlaw07.WatchMoved", spec := "watchMoved", inPlace := ["internal/abi.NoEscape", "internal/bytealg.MakeNoZero"], unfollowed := true, recurses := true, named := ["internal/strconv.uint64pow10", "math/bits.deBruijn32tab", "math/bits.deBruijn64tab"], apart := false, laid := [("math/bits.deBruijn32tab", laid_math_bits_deBruijn32tab), ("math/bits.deBruijn64tab", laid_math_bits_deBruijn64tab), ("internal/strconv.uint64pow10", laid_internal_strconv_uint64pow10)] }
def WatchMovedSaid : Prop := watchMovedRow.holds Tryz.pinned (OpenSpec.ofChange watchMovedSpec)

/-- ITS FALSE NEIGHBOUR: 'it returns false'. Refute it at one input. -/
def watchMovedWrong : ChangeSpec := { name := "watchMoved", fn := fun _ => fun
  | [d1, d2, d3, d4, d5] => { results := [.lit (.bool false)], args := [d1, d2, d3, d4, d5] }
  | _ => none }
def WatchMovedWrongFalsely : Prop := watchMovedRow.holds Tryz.pinned (OpenSpec.ofChange watchMovedWrong)

/-- 'waterhourlaw07.WatchNever': WHATEVER THE INPUT: true; the input reads as it did. -/
def watchNeverSpec : ChangeSpec := { name := "watchNever", fn := fun _ => fun
  | [d1, d2, d3, d4] => { results := [.lit (.bool true)], args := [d1, d2, d3, d4] }
  | _ => none }
def watchNeverRow : OpenClaim := { program := "ythogdhepjcomjaagreatdoor", sum := "ff39853ee87c7ec525055da96ff0b99fe024743748b47be83afb38b4259c411d", func := "waterhour/waterhourlaw07.WatchNever", spec := "watchNever", inPlace := ["internal/abi.NoEscape", "internal/bytealg.MakeNoZero"], unfollowed := true, recurses := true, named := ["internal/strconv.uint64pow10", "math/bits.deBruijn32tab", "math/bits.deBruijn64tab"], apart := false, laid := [("math/bits.deBruijn32tab", laid_math_bits_deBruijn32tab), ("math/bits.deBruijn64tab", laid_math_bits_deBruijn64tab), ("internal/strconv.uint64pow10", laid_internal_strconv_uint64pow10)] }
def WatchNeverSaid : Prop := watchNeverRow.holds Tryz.pinned (OpenSpec.ofChange watchNeverSpec)

/-- ITS FALSE NEIGHBOUR: 'it returns false'. Refute it at one input. -/
def watchNeverWrong : ChangeSpec := { name := "watchNever", fn := fun _ => fun
  | [d1, d2, d3, d4] => { results := [.lit (.bool false)], args := [d1, d2, d3, d4] }
  | _ => none }
def WatchNeverWrongFalsely : Prop := watchNeverRow.holds Tryz.pinned (OpenSpec.ofChange watchNeverWrong)

/-- 'waterhourlaw07.WatchTurns': WHATEVER THE INPUT: true; the input reads as it did. -/
def watchTurnsSpec : ChangeSpec := { name := "watchTurns", fn := fun _ => fun
  | [d1, d2, d3, d4, d5] => { results := [.lit (.bool true)], args := [d1, d2, d3, d4, d5] }
  | _ => none }
def watchTurnsRow : OpenClaim := { program := "ythogdhepjcomjaagreatdoor", sum := "ff39853ee87c7ec525055da96ff0b99fe024743748b47be83afb38b4259c411d", func := "waterhour/waterhourlaw07.WatchTurns", spec := "watchTurns", inPlace := ["internal/abi.NoEscape", "internal/bytealg.MakeNoZero"], unfollowed := true, recurses := true, named := ["internal/strconv.uint64pow10", "math/bits.deBruijn32tab", "math/bits.deBruijn64tab"], apart := false, laid := [("math/bits.deBruijn32tab", laid_math_bits_deBruijn32tab), ("math/bits.deBruijn64tab", laid_math_bits_deBruijn64tab), ("internal/strconv.uint64pow10", laid_internal_strconv_uint64pow10)] }
def WatchTurnsSaid : Prop := watchTurnsRow.holds Tryz.pinned (OpenSpec.ofChange watchTurnsSpec)

/-- ITS FALSE NEIGHBOUR: 'it returns false'. Refute it at one input. -/
def watchTurnsWrong : ChangeSpec := { name := "watchTurns", fn := fun _ => fun
  | [d1, d2, d3, d4, d5] => { results := [.lit (.bool false)], args := [d1, d2, d3, d4, d5] }
  | _ => none }
def WatchTurnsWrongFalsely : Prop := watchTurnsRow.holds Tryz.pinned (OpenSpec.ofChange watchTurnsWrong)

/-- 'waterhourlaw07.WatchNeeds': WHATEVER THE INPUT: true; the input reads as it did. -/
def watchNeedsSpec : ChangeSpec := { name := "watchNeeds", fn := fun _ => fun
  | [d1, d2, d3] => { results := [.lit (.bool true)], args := [d1, d2, d3] }
  | _ => none }
def watchNeedsRow : OpenClaim := { program := "ythogdhepjcomjaagreatdoor", sum := "ff39853ee87c7ec525055da96ff0b99fe024743748b47be83afb38b4259c411d", func := "waterhour/waterhourlaw07.WatchNeeds", spec := "watchNeeds", inPlace := ["internal/abi.NoEscape", "internal/bytealg.MakeNoZero"], unfollowed := true, recurses := true, named := ["internal/strconv.uint64pow10", "math/bits.deBruijn32tab", "math/bits.deBruijn64tab"], apart := false, laid := [("math/bits.deBruijn32tab", laid_math_bits_deBruijn32tab), ("math/bits.deBruijn64tab", laid_math_bits_deBruijn64tab), ("internal/strconv.uint64pow10", laid_internal_strconv_uint64pow10)] }
def WatchNeedsSaid : Prop := watchNeedsRow.holds Tryz.pinned (OpenSpec.ofChange watchNeedsSpec)

/-- ITS FALSE NEIGHBOUR: 'it returns false'. Refute it at one input. -/
def watchNeedsWrong : ChangeSpec := { name := "watchNeeds", fn := fun _ => fun
  | [d1, d2, d3] => { results := [.lit (.bool false)], args := [d1, d2, d3] }
  | _ => none }
def WatchNeedsWrongFalsely : Prop := watchNeedsRow.holds Tryz.pinned (OpenSpec.ofChange watchNeedsWrong)

/-- 'waterhourlaw07.WatchLeast': WHATEVER THE INPUT: true; the input reads as it did. -/
def watchLeastSpec : ChangeSpec := { name := "watchLeast", fn := fun _ => fun
  | [d1, d2, d3, d4, d5] => { results := [.lit (.bool true)], args := [d1, d2, d3, d4, d5] }
  | _ => none }
def watchLeastRow : OpenClaim := { program := "ythogdhepjcomjaagreatdoor", sum := "ff39853ee87c7ec525055da96ff0b99fe024743748b47be83afb38b4259c411d", func := "waterhour/waterhourlaw07.WatchLeast", spec := "watchLeast", inPlace := ["internal/abi.NoEscape", "internal/bytealg.MakeNoZero"], unfollowed := true, recurses := true, named := ["internal/strconv.uint64pow10", "math/bits.deBruijn32tab", "math/bits.deBruijn64tab"], apart := false, laid := [("math/bits.deBruijn32tab", laid_math_bits_deBruijn32tab), ("math/bits.deBruijn64tab", laid_math_bits_deBruijn64tab), ("internal/strconv.uint64pow10", laid_internal_strconv_uint64pow10)] }
def WatchLeastSaid : Prop := watchLeastRow.holds Tryz.pinned (OpenSpec.ofChange watchLeastSpec)

/-- ITS FALSE NEIGHBOUR: 'it returns false'. Refute it at one input. -/
def watchLeastWrong : ChangeSpec := { name := "watchLeast", fn := fun _ => fun
  | [d1, d2, d3, d4, d5] => { results := [.lit (.bool false)], args := [d1, d2, d3, d4, d5] }
  | _ => none }
def WatchLeastWrongFalsely : Prop := watchLeastRow.holds Tryz.pinned (OpenSpec.ofChange watchLeastWrong)

/-- 'waterhourlaw07.WatchExact': WHATEVER THE INPUT: true; the input reads as it did. -/
def watchExactSpec : ChangeSpec := { name := "watchExact", fn := fun _ => fun
  | [d1, d2, d3, d4, d5] => { results := [.lit (.bool true)], args := [d1, d2, d3, d4, d5] }
  | _ => none }
def watchExactRow : OpenClaim := { program := "ythogdhepjcomjaagreatdoor", sum := "ff39853ee87c7ec525055da96ff0b99fe024743748b47be83afb38b4259c411d", func := "waterhour/waterhourlaw07.WatchExact", spec := "watchExact", inPlace := ["internal/abi.NoEscape", "internal/bytealg.MakeNoZero"], unfollowed := true, recurses := true, named := ["internal/strconv.uint64pow10", "math/bits.deBruijn32tab", "math/bits.deBruijn64tab"], apart := false, laid := [("math/bits.deBruijn32tab", laid_math_bits_deBruijn32tab), ("math/bits.deBruijn64tab", laid_math_bits_deBruijn64tab), ("internal/strconv.uint64pow10", laid_internal_strconv_uint64pow10)] }
def WatchExactSaid : Prop := watchExactRow.holds Tryz.pinned (OpenSpec.ofChange watchExactSpec)

/-- ITS FALSE NEIGHBOUR: 'it returns false'. Refute it at one input. -/
def watchExactWrong : ChangeSpec := { name := "watchExact", fn := fun _ => fun
  | [d1, d2, d3, d4, d5] => { results := [.lit (.bool false)], args := [d1, d2, d3, d4, d5] }
  | _ => none }
def WatchExactWrongFalsely : Prop := watchExactRow.holds Tryz.pinned (OpenSpec.ofChange watchExactWrong)

/-- 'waterhourlaw07.WatchShorter': WHATEVER THE INPUT: true; the input reads as it did. -/
def watchShorterSpec : ChangeSpec := { name := "watchShorter", fn := fun _ => fun
  | [d1, d2, d3, d4, d5] => { results := [.lit (.bool true)], args := [d1, d2, d3, d4, d5] }
  | _ => none }
def watchShorterRow : OpenClaim := { program := "ythogdhepjcomjaagreatdoor", sum := "ff39853ee87c7ec525055da96ff0b99fe024743748b47be83afb38b4259c411d", func := "waterhour/waterhourlaw07.WatchShorter", spec := "watchShorter", inPlace := ["internal/abi.NoEscape", "internal/bytealg.MakeNoZero"], unfollowed := true, recurses := true, named := ["internal/strconv.uint64pow10", "math/bits.deBruijn32tab", "math/bits.deBruijn64tab"], apart := false, laid := [("math/bits.deBruijn32tab", laid_math_bits_deBruijn32tab), ("math/bits.deBruijn64tab", laid_math_bits_deBruijn64tab), ("internal/strconv.uint64pow10", laid_internal_strconv_uint64pow10)] }
def WatchShorterSaid : Prop := watchShorterRow.holds Tryz.pinned (OpenSpec.ofChange watchShorterSpec)

/-- ITS FALSE NEIGHBOUR: 'it returns false'. Refute it at one input. -/
def watchShorterWrong : ChangeSpec := { name := "watchShorter", fn := fun _ => fun
  | [d1, d2, d3, d4, d5] => { results := [.lit (.bool false)], args := [d1, d2, d3, d4, d5] }
  | _ => none }
def WatchShorterWrongFalsely : Prop := watchShorterRow.holds Tryz.pinned (OpenSpec.ofChange watchShorterWrong)

/-- 'waterhourlaw07.WatchLacking': WHATEVER THE INPUT: true; the input reads as it did. -/
def watchLackingSpec : ChangeSpec := { name := "watchLacking", fn := fun _ => fun
  | [d1, d2, d3, d4] => { results := [.lit (.bool true)], args := [d1, d2, d3, d4] }
  | _ => none }
def watchLackingRow : OpenClaim := { program := "ythogdhepjcomjaagreatdoor", sum := "ff39853ee87c7ec525055da96ff0b99fe024743748b47be83afb38b4259c411d", func := "waterhour/waterhourlaw07.WatchLacking", spec := "watchLacking", inPlace := ["internal/abi.NoEscape", "internal/bytealg.MakeNoZero"], unfollowed := true, recurses := true, named := ["internal/strconv.uint64pow10", "math/bits.deBruijn32tab", "math/bits.deBruijn64tab"], apart := false, laid := [("math/bits.deBruijn32tab", laid_math_bits_deBruijn32tab), ("math/bits.deBruijn64tab", laid_math_bits_deBruijn64tab), ("internal/strconv.uint64pow10", laid_internal_strconv_uint64pow10)] }
def WatchLackingSaid : Prop := watchLackingRow.holds Tryz.pinned (OpenSpec.ofChange watchLackingSpec)

/-- ITS FALSE NEIGHBOUR: 'it returns false'. Refute it at one input. -/
def watchLackingWrong : ChangeSpec := { name := "watchLacking", fn := fun _ => fun
  | [d1, d2, d3, d4] => { results := [.lit (.bool false)], args := [d1, d2, d3, d4] }
  | _ => none }
def WatchLackingWrongFalsely : Prop := watchLackingRow.holds Tryz.pinned (OpenSpec.ofChange watchLackingWrong)

/-- 'waterhourlaw07.WatchPlans': WHATEVER THE INPUT: true; the input reads as it did. -/
def watchPlansSpec : ChangeSpec := { name := "watchPlans", fn := fun _ => fun
  | [d1, d2, d3] => { results := [.lit (.bool true)], args := [d1, d2, d3] }
  | _ => none }
def watchPlansRow : OpenClaim := { program := "ythogdhepjcomjaagreatdoor", sum := "ff39853ee87c7ec525055da96ff0b99fe024743748b47be83afb38b4259c411d", func := "waterhour/waterhourlaw07.WatchPlans", spec := "watchPlans", inPlace := ["internal/abi.NoEscape", "internal/bytealg.MakeNoZero"], unfollowed := true, recurses := true, named := ["internal/strconv.uint64pow10", "math/bits.deBruijn32tab", "math/bits.deBruijn64tab"], apart := false, laid := [("math/bits.deBruijn32tab", laid_math_bits_deBruijn32tab), ("math/bits.deBruijn64tab", laid_math_bits_deBruijn64tab), ("internal/strconv.uint64pow10", laid_internal_strconv_uint64pow10)] }
def WatchPlansSaid : Prop := watchPlansRow.holds Tryz.pinned (OpenSpec.ofChange watchPlansSpec)

/-- ITS FALSE NEIGHBOUR: 'it returns false'. Refute it at one input. -/
def watchPlansWrong : ChangeSpec := { name := "watchPlans", fn := fun _ => fun
  | [d1, d2, d3] => { results := [.lit (.bool false)], args := [d1, d2, d3] }
  | _ => none }
def WatchPlansWrongFalsely : Prop := watchPlansRow.holds Tryz.pinned (OpenSpec.ofChange watchPlansWrong)

/- THE SECOND FORM. 'bulk': how many values and letters a reading holds, each counted each time it is reached (what is shared counts as often as it is met; a slice's spare places count too). A statement '..UptoSaid' is the law's where the arguments, and the package variables that the reading takes, are together of bulk at most 1048576: NARROWER than '..Said'. Prove '..Said' where nothing that the law and all that it calls make is longer than what came in: it says more and counts as full. Else prove '..UptoSaid'. A law counts once. -/
mutual
def uptoBulk {H : Type} : DataW H → Nat
  | .lit (.string bytes) => bytes.length + 1
  | .lit _ => 1
  | .nil => 1
  | .ptr d => uptoBulk d + 1
  | .slice elems spare => uptoBulkAll elems + uptoBulkAll spare + 1
  | .agg parts => uptoBulkAll parts + 1
  | .iface _ d => uptoBulk d + 1
  | .map entries => uptoBulkEntries entries + 1
  | .held _ => 1
def uptoBulkAll {H : Type} : List (DataW H) → Nat
  | [] => 0
  | d :: r => uptoBulk d + uptoBulkAll r
def uptoBulkEntries {H : Type} : List (Lit × DataW H) → Nat
  | [] => 0
  | x :: r => uptoBulkEntry x + uptoBulkEntries r
def uptoBulkEntry {H : Type} : Lit × DataW H → Nat
  | (.string bytes, d) => bytes.length + uptoBulk d + 1
  | (_, d) => uptoBulk d + 1
 end
def uptoSmall : (H : Type) → List (DataW H) → Bool := fun _ ds => decide (uptoBulkAll ds ≤ 1048576)
def OpenSpec.upto (s : _root_.Go.ChangeSpec) : _root_.Go.OpenSpec := { _root_.Go.OpenSpec.ofChange s with cond := some uptoSmall }

/-- 'waterhourlaw07.WatchProofs', WHERE WHAT IT READS IS OF BULK AT MOST 1048576: true; the input reads as it did. -/
def watchProofsUptoRow : OpenClaim := { program := "ythogdhepjcomjaagreatdoor", sum := "ff39853ee87c7ec525055da96ff0b99fe024743748b47be83afb38b4259c411d", func := "waterhour/waterhourlaw07.WatchProofs", spec := "watchProofs", inPlace := ["internal/abi.NoEscape", "internal/bytealg.MakeNoZero"], unfollowed := true, recurses := true, named := ["internal/strconv.uint64pow10", "math/bits.deBruijn32tab", "math/bits.deBruijn64tab"], apart := false, laid := [("math/bits.deBruijn32tab", laid_math_bits_deBruijn32tab), ("math/bits.deBruijn64tab", laid_math_bits_deBruijn64tab), ("internal/strconv.uint64pow10", laid_internal_strconv_uint64pow10)], narrowed := true }
def WatchProofsUptoSaid : Prop := watchProofsUptoRow.holds Tryz.pinned (OpenSpec.upto watchProofsSpec)

/-- 'waterhourlaw07.WatchBare', WHERE WHAT IT READS IS OF BULK AT MOST 1048576: true; the input reads as it did. -/
def watchBareUptoRow : OpenClaim := { program := "ythogdhepjcomjaagreatdoor", sum := "ff39853ee87c7ec525055da96ff0b99fe024743748b47be83afb38b4259c411d", func := "waterhour/waterhourlaw07.WatchBare", spec := "watchBare", inPlace := ["internal/abi.NoEscape", "internal/bytealg.MakeNoZero"], unfollowed := true, recurses := true, named := ["internal/strconv.uint64pow10", "math/bits.deBruijn32tab", "math/bits.deBruijn64tab"], apart := false, laid := [("math/bits.deBruijn32tab", laid_math_bits_deBruijn32tab), ("math/bits.deBruijn64tab", laid_math_bits_deBruijn64tab), ("internal/strconv.uint64pow10", laid_internal_strconv_uint64pow10)], narrowed := true }
def WatchBareUptoSaid : Prop := watchBareUptoRow.holds Tryz.pinned (OpenSpec.upto watchBareSpec)

/-- 'waterhourlaw07.WatchEither', WHERE WHAT IT READS IS OF BULK AT MOST 1048576: true; the input reads as it did. -/
def watchEitherUptoRow : OpenClaim := { program := "ythogdhepjcomjaagreatdoor", sum := "ff39853ee87c7ec525055da96ff0b99fe024743748b47be83afb38b4259c411d", func := "waterhour/waterhourlaw07.WatchEither", spec := "watchEither", inPlace := ["internal/abi.NoEscape", "internal/bytealg.MakeNoZero"], unfollowed := true, recurses := true, named := ["internal/strconv.uint64pow10", "math/bits.deBruijn32tab", "math/bits.deBruijn64tab"], apart := false, laid := [("math/bits.deBruijn32tab", laid_math_bits_deBruijn32tab), ("math/bits.deBruijn64tab", laid_math_bits_deBruijn64tab), ("internal/strconv.uint64pow10", laid_internal_strconv_uint64pow10)], narrowed := true }
def WatchEitherUptoSaid : Prop := watchEitherUptoRow.holds Tryz.pinned (OpenSpec.upto watchEitherSpec)

/-- 'waterhourlaw07.WatchSure', WHERE WHAT IT READS IS OF BULK AT MOST 1048576: true; the input reads as it did. -/
def watchSureUptoRow : OpenClaim := { program := "ythogdhepjcomjaagreatdoor", sum := "ff39853ee87c7ec525055da96ff0b99fe024743748b47be83afb38b4259c411d", func := "waterhour/waterhourlaw07.WatchSure", spec := "watchSure", inPlace := ["internal/abi.NoEscape", "internal/bytealg.MakeNoZero"], unfollowed := true, recurses := true, named := ["internal/strconv.uint64pow10", "math/bits.deBruijn32tab", "math/bits.deBruijn64tab"], apart := false, laid := [("math/bits.deBruijn32tab", laid_math_bits_deBruijn32tab), ("math/bits.deBruijn64tab", laid_math_bits_deBruijn64tab), ("internal/strconv.uint64pow10", laid_internal_strconv_uint64pow10)], narrowed := true }
def WatchSureUptoSaid : Prop := watchSureUptoRow.holds Tryz.pinned (OpenSpec.upto watchSureSpec)

/-- 'waterhourlaw07.WatchMoved', WHERE WHAT IT READS IS OF BULK AT MOST 1048576: true; the input reads as it did. -/
def watchMovedUptoRow : OpenClaim := { program := "ythogdhepjcomjaagreatdoor", sum := "ff39853ee87c7ec525055da96ff0b99fe024743748b47be83afb38b4259c411d", func := "waterhour/waterhourlaw07.WatchMoved", spec := "watchMoved", inPlace := ["internal/abi.NoEscape", "internal/bytealg.MakeNoZero"], unfollowed := true, recurses := true, named := ["internal/strconv.uint64pow10", "math/bits.deBruijn32tab", "math/bits.deBruijn64tab"], apart := false, laid := [("math/bits.deBruijn32tab", laid_math_bits_deBruijn32tab), ("math/bits.deBruijn64tab", laid_math_bits_deBruijn64tab), ("internal/strconv.uint64pow10", laid_internal_strconv_uint64pow10)], narrowed := true }
def WatchMovedUptoSaid : Prop := watchMovedUptoRow.holds Tryz.pinned (OpenSpec.upto watchMovedSpec)

/-- 'waterhourlaw07.WatchNever', WHERE WHAT IT READS IS OF BULK AT MOST 1048576: true; the input reads as it did. -/
def watchNeverUptoRow : OpenClaim := { program := "ythogdhepjcomjaagreatdoor", sum := "ff39853ee87c7ec525055da96ff0b99fe024743748b47be83afb38b4259c411d", func := "waterhour/waterhourlaw07.WatchNever", spec := "watchNever", inPlace := ["internal/abi.NoEscape", "internal/bytealg.MakeNoZero"], unfollowed := true, recurses := true, named := ["internal/strconv.uint64pow10", "math/bits.deBruijn32tab", "math/bits.deBruijn64tab"], apart := false, laid := [("math/bits.deBruijn32tab", laid_math_bits_deBruijn32tab), ("math/bits.deBruijn64tab", laid_math_bits_deBruijn64tab), ("internal/strconv.uint64pow10", laid_internal_strconv_uint64pow10)], narrowed := true }
def WatchNeverUptoSaid : Prop := watchNeverUptoRow.holds Tryz.pinned (OpenSpec.upto watchNeverSpec)

/-- 'waterhourlaw07.WatchTurns', WHERE WHAT IT READS IS OF BULK AT MOST 1048576: true; the input reads as it did. -/
def watchTurnsUptoRow : OpenClaim := { program := "ythogdhepjcomjaagreatdoor", sum := "ff39853ee87c7ec525055da96ff0b99fe024743748b47be83afb38b4259c411d", func := "waterhour/waterhourlaw07.WatchTurns", spec := "watchTurns", inPlace := ["internal/abi.NoEscape", "internal/bytealg.MakeNoZero"], unfollowed := true, recurses := true, named := ["internal/strconv.uint64pow10", "math/bits.deBruijn32tab", "math/bits.deBruijn64tab"], apart := false, laid := [("math/bits.deBruijn32tab", laid_math_bits_deBruijn32tab), ("math/bits.deBruijn64tab", laid_math_bits_deBruijn64tab), ("internal/strconv.uint64pow10", laid_internal_strconv_uint64pow10)], narrowed := true }
def WatchTurnsUptoSaid : Prop := watchTurnsUptoRow.holds Tryz.pinned (OpenSpec.upto watchTurnsSpec)

/-- 'waterhourlaw07.WatchNeeds', WHERE WHAT IT READS IS OF BULK AT MOST 1048576: true; the input reads as it did. -/
def watchNeedsUptoRow : OpenClaim := { program := "ythogdhepjcomjaagreatdoor", sum := "ff39853ee87c7ec525055da96ff0b99fe024743748b47be83afb38b4259c411d", func := "waterhour/waterhourlaw07.WatchNeeds", spec := "watchNeeds", inPlace := ["internal/abi.NoEscape", "internal/bytealg.MakeNoZero"], unfollowed := true, recurses := true, named := ["internal/strconv.uint64pow10", "math/bits.deBruijn32tab", "math/bits.deBruijn64tab"], apart := false, laid := [("math/bits.deBruijn32tab", laid_math_bits_deBruijn32tab), ("math/bits.deBruijn64tab", laid_math_bits_deBruijn64tab), ("internal/strconv.uint64pow10", laid_internal_strconv_uint64pow10)], narrowed := true }
def WatchNeedsUptoSaid : Prop := watchNeedsUptoRow.holds Tryz.pinned (OpenSpec.upto watchNeedsSpec)

/-- 'waterhourlaw07.WatchLeast', WHERE WHAT IT READS IS OF BULK AT MOST 1048576: true; the input reads as it did. -/
def watchLeastUptoRow : OpenClaim := { program := "ythogdhepjcomjaagreatdoor", sum := "ff39853ee87c7ec525055da96ff0b99fe024743748b47be83afb38b4259c411d", func := "waterhour/waterhourlaw07.WatchLeast", spec := "watchLeast", inPlace := ["internal/abi.NoEscape", "internal/bytealg.MakeNoZero"], unfollowed := true, recurses := true, named := ["internal/strconv.uint64pow10", "math/bits.deBruijn32tab", "math/bits.deBruijn64tab"], apart := false, laid := [("math/bits.deBruijn32tab", laid_math_bits_deBruijn32tab), ("math/bits.deBruijn64tab", laid_math_bits_deBruijn64tab), ("internal/strconv.uint64pow10", laid_internal_strconv_uint64pow10)], narrowed := true }
def WatchLeastUptoSaid : Prop := watchLeastUptoRow.holds Tryz.pinned (OpenSpec.upto watchLeastSpec)

/-- 'waterhourlaw07.WatchExact', WHERE WHAT IT READS IS OF BULK AT MOST 1048576: true; the input reads as it did. -/
def watchExactUptoRow : OpenClaim := { program := "ythogdhepjcomjaagreatdoor", sum := "ff39853ee87c7ec525055da96ff0b99fe024743748b47be83afb38b4259c411d", func := "waterhour/waterhourlaw07.WatchExact", spec := "watchExact", inPlace := ["internal/abi.NoEscape", "internal/bytealg.MakeNoZero"], unfollowed := true, recurses := true, named := ["internal/strconv.uint64pow10", "math/bits.deBruijn32tab", "math/bits.deBruijn64tab"], apart := false, laid := [("math/bits.deBruijn32tab", laid_math_bits_deBruijn32tab), ("math/bits.deBruijn64tab", laid_math_bits_deBruijn64tab), ("internal/strconv.uint64pow10", laid_internal_strconv_uint64pow10)], narrowed := true }
def WatchExactUptoSaid : Prop := watchExactUptoRow.holds Tryz.pinned (OpenSpec.upto watchExactSpec)

/-- 'waterhourlaw07.WatchShorter', WHERE WHAT IT READS IS OF BULK AT MOST 1048576: true; the input reads as it did. -/
def watchShorterUptoRow : OpenClaim := { program := "ythogdhepjcomjaagreatdoor", sum := "ff39853ee87c7ec525055da96ff0b99fe024743748b47be83afb38b4259c411d", func := "waterhour/waterhourlaw07.WatchShorter", spec := "watchShorter", inPlace := ["internal/abi.NoEscape", "internal/bytealg.MakeNoZero"], unfollowed := true, recurses := true, named := ["internal/strconv.uint64pow10", "math/bits.deBruijn32tab", "math/bits.deBruijn64tab"], apart := false, laid := [("math/bits.deBruijn32tab", laid_math_bits_deBruijn32tab), ("math/bits.deBruijn64tab", laid_math_bits_deBruijn64tab), ("internal/strconv.uint64pow10", laid_internal_strconv_uint64pow10)], narrowed := true }
def WatchShorterUptoSaid : Prop := watchShorterUptoRow.holds Tryz.pinned (OpenSpec.upto watchShorterSpec)

/-- 'waterhourlaw07.WatchLacking', WHERE WHAT IT READS IS OF BULK AT MOST 1048576: true; the input reads as it did. -/
def watchLackingUptoRow : OpenClaim := { program := "ythogdhepjcomjaagreatdoor", sum := "ff39853ee87c7ec525055da96ff0b99fe024743748b47be83afb38b4259c411d", func := "waterhour/waterhourlaw07.WatchLacking", spec := "watchLacking", inPlace := ["internal/abi.NoEscape", "internal/bytealg.MakeNoZero"], unfollowed := true, recurses := true, named := ["internal/strconv.uint64pow10", "math/bits.deBruijn32tab", "math/bits.deBruijn64tab"], apart := false, laid := [("math/bits.deBruijn32tab", laid_math_bits_deBruijn32tab), ("math/bits.deBruijn64tab", laid_math_bits_deBruijn64tab), ("internal/strconv.uint64pow10", laid_internal_strconv_uint64pow10)], narrowed := true }
def WatchLackingUptoSaid : Prop := watchLackingUptoRow.holds Tryz.pinned (OpenSpec.upto watchLackingSpec)

/-- 'waterhourlaw07.WatchPlans', WHERE WHAT IT READS IS OF BULK AT MOST 1048576: true; the input reads as it did. -/
def watchPlansUptoRow : OpenClaim := { program := "ythogdhepjcomjaagreatdoor", sum := "ff39853ee87c7ec525055da96ff0b99fe024743748b47be83afb38b4259c411d", func := "waterhour/waterhourlaw07.WatchPlans", spec := "watchPlans", inPlace := ["internal/abi.NoEscape", "internal/bytealg.MakeNoZero"], unfollowed := true, recurses := true, named := ["internal/strconv.uint64pow10", "math/bits.deBruijn32tab", "math/bits.deBruijn64tab"], apart := false, laid := [("math/bits.deBruijn32tab", laid_math_bits_deBruijn32tab), ("math/bits.deBruijn64tab", laid_math_bits_deBruijn64tab), ("internal/strconv.uint64pow10", laid_internal_strconv_uint64pow10)], narrowed := true }
def WatchPlansUptoSaid : Prop := watchPlansUptoRow.holds Tryz.pinned (OpenSpec.upto watchPlansSpec)

end Rows
end Go.Proofs.YthogdhepjcomjaaGreatDoor
