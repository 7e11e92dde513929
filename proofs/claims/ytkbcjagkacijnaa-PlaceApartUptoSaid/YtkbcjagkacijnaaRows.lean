/-
  No cell of these rows narrows 'for every input' (looked for: loops, veiled, ifaces, maps, wideKeys, modest, calm, conditions, laid).
  DERIVED. THE GIVEN ROWS OF THIS SEAT. 28 by the template 'for every input the law returns true; each argument reads behind the call as it read before'; 0 by the template 'total and deterministic' (their statements: YtkbcjagkacijnaaTotals.lean).
  GIVEN WITH THE SEED: the statements are not yours to turn. If you find one false, say at which input.
  Laid BY PROGRAM, IN A SANDBOX (cutbox-rows.mjs): the forced cells as the released guide's own fill.sh prints them over the translation 17ff6662cba2de9e… (all of the seat's roots in one cut). By AI agents, Wed Nov 11 2026. No macro, syntax, notation, axiom, sorry.
-/
import Derived.Test.YtkbcjagkacijnaaChecked
import GoSem.Claim
import GoSem.ClaimJoined
import GoSem.ClaimMapViews
import Derived.JoinedTies
import Derived.KernelRfl
namespace Go.Proofs.Ytkbcjagkacijnaa
/- THE CELL 'sum', in the pinned program and in every row, IS THE sha256 OF THE DUMP (.gsa) THAT YtkbcjagkacijnaaProg.lean LOADS. Nothing in Lean hashes anything: it is a label: what it is worth is what the hold of that sum in a sandbox is worth. -/
noncomputable def Try.pinned : Pinned := { name := "ytkbcjagkacijnaa", sum := "17ff6662cba2de9e6d1d0cbd1bd6bbf7b955a5d9960596d7db5794089da7f3ad", checked := Try.checked }
namespace Rows
def none {H : Type} : Left H := { results := [], args := [] }

/-- 'furlonglaw07.PlaceFinds': WHATEVER THE INPUT: true; the input reads as it did. -/
def placeFindsSpec : ChangeSpec := { name := "placeFinds", fn := fun _ => fun
  | [d1, d2, d3] => { results := [.lit (.bool true)], args := [d1, d2, d3] }
  | _ => none }
def placeFindsRow : OpenClaim := { program := "ytkbcjagkacijnaa", sum := "17ff6662cba2de9e6d1d0cbd1bd6bbf7b955a5d9960596d7db5794089da7f3ad", func := "furlong/furlonglaw07.PlaceFinds", spec := "placeFinds", unfollowed := true, recurses := true, apart := false }
def PlaceFindsSaid : Prop := placeFindsRow.holds Try.pinned (OpenSpec.ofChange placeFindsSpec)

/-- ITS FALSE NEIGHBOUR: 'it returns false'. Refute it at one input. -/
def placeFindsWrong : ChangeSpec := { name := "placeFinds", fn := fun _ => fun
  | [d1, d2, d3] => { results := [.lit (.bool false)], args := [d1, d2, d3] }
  | _ => none }
def PlaceFindsWrongFalsely : Prop := placeFindsRow.holds Try.pinned (OpenSpec.ofChange placeFindsWrong)

/-- 'furlonglaw02.VecShares': WHATEVER THE INPUT: true; the input reads as it did. -/
def vecSharesSpec : ChangeSpec := { name := "vecShares", fn := fun _ => fun
  | [d1, d2] => { results := [.lit (.bool true)], args := [d1, d2] }
  | _ => none }
def vecSharesRow : OpenClaim := { program := "ytkbcjagkacijnaa", sum := "17ff6662cba2de9e6d1d0cbd1bd6bbf7b955a5d9960596d7db5794089da7f3ad", func := "furlong/furlonglaw02.VecShares", spec := "vecShares", unfollowed := true, recurses := true, apart := false }
def VecSharesSaid : Prop := vecSharesRow.holds Try.pinned (OpenSpec.ofChange vecSharesSpec)

/-- ITS FALSE NEIGHBOUR: 'it returns false'. Refute it at one input. -/
def vecSharesWrong : ChangeSpec := { name := "vecShares", fn := fun _ => fun
  | [d1, d2] => { results := [.lit (.bool false)], args := [d1, d2] }
  | _ => none }
def VecSharesWrongFalsely : Prop := vecSharesRow.holds Try.pinned (OpenSpec.ofChange vecSharesWrong)

/-- 'furlonglaw02.VecAdds': WHATEVER THE INPUT: true; the input reads as it did. -/
def vecAddsSpec : ChangeSpec := { name := "vecAdds", fn := fun _ => fun
  | [d1, d2] => { results := [.lit (.bool true)], args := [d1, d2] }
  | _ => none }
def vecAddsRow : OpenClaim := { program := "ytkbcjagkacijnaa", sum := "17ff6662cba2de9e6d1d0cbd1bd6bbf7b955a5d9960596d7db5794089da7f3ad", func := "furlong/furlonglaw02.VecAdds", spec := "vecAdds", unfollowed := true, recurses := true, apart := false }
def VecAddsSaid : Prop := vecAddsRow.holds Try.pinned (OpenSpec.ofChange vecAddsSpec)

/-- ITS FALSE NEIGHBOUR: 'it returns false'. Refute it at one input. -/
def vecAddsWrong : ChangeSpec := { name := "vecAdds", fn := fun _ => fun
  | [d1, d2] => { results := [.lit (.bool false)], args := [d1, d2] }
  | _ => none }
def VecAddsWrongFalsely : Prop := vecAddsRow.holds Try.pinned (OpenSpec.ofChange vecAddsWrong)

/-- 'furlonglaw02.VecBack': WHATEVER THE INPUT: true; the input reads as it did. -/
def vecBackSpec : ChangeSpec := { name := "vecBack", fn := fun _ => fun
  | [d1, d2] => { results := [.lit (.bool true)], args := [d1, d2] }
  | _ => none }
def vecBackRow : OpenClaim := { program := "ytkbcjagkacijnaa", sum := "17ff6662cba2de9e6d1d0cbd1bd6bbf7b955a5d9960596d7db5794089da7f3ad", func := "furlong/furlonglaw02.VecBack", spec := "vecBack", unfollowed := true, recurses := true, apart := false }
def VecBackSaid : Prop := vecBackRow.holds Try.pinned (OpenSpec.ofChange vecBackSpec)

/-- ITS FALSE NEIGHBOUR: 'it returns false'. Refute it at one input. -/
def vecBackWrong : ChangeSpec := { name := "vecBack", fn := fun _ => fun
  | [d1, d2] => { results := [.lit (.bool false)], args := [d1, d2] }
  | _ => none }
def VecBackWrongFalsely : Prop := vecBackRow.holds Try.pinned (OpenSpec.ofChange vecBackWrong)

/-- 'furlonglaw02.VecMost': WHATEVER THE INPUT: true; the input reads as it did. -/
def vecMostSpec : ChangeSpec := { name := "vecMost", fn := fun _ => fun
  | [d1, d2] => { results := [.lit (.bool true)], args := [d1, d2] }
  | _ => none }
def vecMostRow : OpenClaim := { program := "ytkbcjagkacijnaa", sum := "17ff6662cba2de9e6d1d0cbd1bd6bbf7b955a5d9960596d7db5794089da7f3ad", func := "furlong/furlonglaw02.VecMost", spec := "vecMost", unfollowed := true, recurses := true, apart := false }
def VecMostSaid : Prop := vecMostRow.holds Try.pinned (OpenSpec.ofChange vecMostSpec)

/-- ITS FALSE NEIGHBOUR: 'it returns false'. Refute it at one input. -/
def vecMostWrong : ChangeSpec := { name := "vecMost", fn := fun _ => fun
  | [d1, d2] => { results := [.lit (.bool false)], args := [d1, d2] }
  | _ => none }
def VecMostWrongFalsely : Prop := vecMostRow.holds Try.pinned (OpenSpec.ofChange vecMostWrong)

/-- 'furlonglaw07.PlaceFits': WHATEVER THE INPUT: true; the input reads as it did. -/
def placeFitsSpec : ChangeSpec := { name := "placeFits", fn := fun _ => fun
  | [d1, d2, d3] => { results := [.lit (.bool true)], args := [d1, d2, d3] }
  | _ => none }
def placeFitsRow : OpenClaim := { program := "ytkbcjagkacijnaa", sum := "17ff6662cba2de9e6d1d0cbd1bd6bbf7b955a5d9960596d7db5794089da7f3ad", func := "furlong/furlonglaw07.PlaceFits", spec := "placeFits", unfollowed := true, recurses := true, apart := false }
def PlaceFitsSaid : Prop := placeFitsRow.holds Try.pinned (OpenSpec.ofChange placeFitsSpec)

/-- ITS FALSE NEIGHBOUR: 'it returns false'. Refute it at one input. -/
def placeFitsWrong : ChangeSpec := { name := "placeFits", fn := fun _ => fun
  | [d1, d2, d3] => { results := [.lit (.bool false)], args := [d1, d2, d3] }
  | _ => none }
def PlaceFitsWrongFalsely : Prop := placeFitsRow.holds Try.pinned (OpenSpec.ofChange placeFitsWrong)

/-- 'furlonglaw07.PlaceTakes': WHATEVER THE INPUT: true; the input reads as it did. -/
def placeTakesSpec : ChangeSpec := { name := "placeTakes", fn := fun _ => fun
  | [d1, d2, d3, d4] => { results := [.lit (.bool true)], args := [d1, d2, d3, d4] }
  | _ => none }
def placeTakesRow : OpenClaim := { program := "ytkbcjagkacijnaa", sum := "17ff6662cba2de9e6d1d0cbd1bd6bbf7b955a5d9960596d7db5794089da7f3ad", func := "furlong/furlonglaw07.PlaceTakes", spec := "placeTakes", unfollowed := true, recurses := true, apart := false }
def PlaceTakesSaid : Prop := placeTakesRow.holds Try.pinned (OpenSpec.ofChange placeTakesSpec)

/-- ITS FALSE NEIGHBOUR: 'it returns false'. Refute it at one input. -/
def placeTakesWrong : ChangeSpec := { name := "placeTakes", fn := fun _ => fun
  | [d1, d2, d3, d4] => { results := [.lit (.bool false)], args := [d1, d2, d3, d4] }
  | _ => none }
def PlaceTakesWrongFalsely : Prop := placeTakesRow.holds Try.pinned (OpenSpec.ofChange placeTakesWrong)

/-- 'furlonglaw07.PlaceApart': WHATEVER THE INPUT: true; the input reads as it did. -/
def placeApartSpec : ChangeSpec := { name := "placeApart", fn := fun _ => fun
  | [d1, d2, d3, d4] => { results := [.lit (.bool true)], args := [d1, d2, d3, d4] }
  | _ => none }
def placeApartRow : OpenClaim := { program := "ytkbcjagkacijnaa", sum := "17ff6662cba2de9e6d1d0cbd1bd6bbf7b955a5d9960596d7db5794089da7f3ad", func := "furlong/furlonglaw07.PlaceApart", spec := "placeApart", unfollowed := true, recurses := true, apart := false }
def PlaceApartSaid : Prop := placeApartRow.holds Try.pinned (OpenSpec.ofChange placeApartSpec)

/-- ITS FALSE NEIGHBOUR: 'it returns false'. Refute it at one input. -/
def placeApartWrong : ChangeSpec := { name := "placeApart", fn := fun _ => fun
  | [d1, d2, d3, d4] => { results := [.lit (.bool false)], args := [d1, d2, d3, d4] }
  | _ => none }
def PlaceApartWrongFalsely : Prop := placeApartRow.holds Try.pinned (OpenSpec.ofChange placeApartWrong)

/-- 'furlonglaw02.VecOrders': WHATEVER THE INPUT: true; the input reads as it did. -/
def vecOrdersSpec : ChangeSpec := { name := "vecOrders", fn := fun _ => fun
  | [d1, d2, d3, d4, d5] => { results := [.lit (.bool true)], args := [d1, d2, d3, d4, d5] }
  | _ => none }
def vecOrdersRow : OpenClaim := { program := "ytkbcjagkacijnaa", sum := "17ff6662cba2de9e6d1d0cbd1bd6bbf7b955a5d9960596d7db5794089da7f3ad", func := "furlong/furlonglaw02.VecOrders", spec := "vecOrders", unfollowed := true, recurses := true, apart := false }
def VecOrdersSaid : Prop := vecOrdersRow.holds Try.pinned (OpenSpec.ofChange vecOrdersSpec)

/-- ITS FALSE NEIGHBOUR: 'it returns false'. Refute it at one input. -/
def vecOrdersWrong : ChangeSpec := { name := "vecOrders", fn := fun _ => fun
  | [d1, d2, d3, d4, d5] => { results := [.lit (.bool false)], args := [d1, d2, d3, d4, d5] }
  | _ => none }
def VecOrdersWrongFalsely : Prop := vecOrdersRow.holds Try.pinned (OpenSpec.ofChange vecOrdersWrong)

/-- 'furlonglaw02.VecTurns': WHATEVER THE INPUT: true; the input reads as it did. -/
def vecTurnsSpec : ChangeSpec := { name := "vecTurns", fn := fun _ => fun
  | [d1, d2, d3, d4, d5] => { results := [.lit (.bool true)], args := [d1, d2, d3, d4, d5] }
  | _ => none }
def vecTurnsRow : OpenClaim := { program := "ytkbcjagkacijnaa", sum := "17ff6662cba2de9e6d1d0cbd1bd6bbf7b955a5d9960596d7db5794089da7f3ad", func := "furlong/furlonglaw02.VecTurns", spec := "vecTurns", unfollowed := true, recurses := true, apart := false }
def VecTurnsSaid : Prop := vecTurnsRow.holds Try.pinned (OpenSpec.ofChange vecTurnsSpec)

/-- ITS FALSE NEIGHBOUR: 'it returns false'. Refute it at one input. -/
def vecTurnsWrong : ChangeSpec := { name := "vecTurns", fn := fun _ => fun
  | [d1, d2, d3, d4, d5] => { results := [.lit (.bool false)], args := [d1, d2, d3, d4, d5] }
  | _ => none }
def VecTurnsWrongFalsely : Prop := vecTurnsRow.holds Try.pinned (OpenSpec.ofChange vecTurnsWrong)

/-- 'furlonglaw02.VecAlike': WHATEVER THE INPUT: true; the input reads as it did. -/
def vecAlikeSpec : ChangeSpec := { name := "vecAlike", fn := fun _ => fun
  | [d1, d2, d3] => { results := [.lit (.bool true)], args := [d1, d2, d3] }
  | _ => none }
def vecAlikeRow : OpenClaim := { program := "ytkbcjagkacijnaa", sum := "17ff6662cba2de9e6d1d0cbd1bd6bbf7b955a5d9960596d7db5794089da7f3ad", func := "furlong/furlonglaw02.VecAlike", spec := "vecAlike", unfollowed := true, recurses := true, apart := false }
def VecAlikeSaid : Prop := vecAlikeRow.holds Try.pinned (OpenSpec.ofChange vecAlikeSpec)

/-- ITS FALSE NEIGHBOUR: 'it returns false'. Refute it at one input. -/
def vecAlikeWrong : ChangeSpec := { name := "vecAlike", fn := fun _ => fun
  | [d1, d2, d3] => { results := [.lit (.bool false)], args := [d1, d2, d3] }
  | _ => none }
def VecAlikeWrongFalsely : Prop := vecAlikeRow.holds Try.pinned (OpenSpec.ofChange vecAlikeWrong)

/-- 'furlonglaw07.PlaceFrees': WHATEVER THE INPUT: true; the input reads as it did. -/
def placeFreesSpec : ChangeSpec := { name := "placeFrees", fn := fun _ => fun
  | [d1, d2, d3] => { results := [.lit (.bool true)], args := [d1, d2, d3] }
  | _ => none }
def placeFreesRow : OpenClaim := { program := "ytkbcjagkacijnaa", sum := "17ff6662cba2de9e6d1d0cbd1bd6bbf7b955a5d9960596d7db5794089da7f3ad", func := "furlong/furlonglaw07.PlaceFrees", spec := "placeFrees", unfollowed := true, recurses := true, apart := false }
def PlaceFreesSaid : Prop := placeFreesRow.holds Try.pinned (OpenSpec.ofChange placeFreesSpec)

/-- ITS FALSE NEIGHBOUR: 'it returns false'. Refute it at one input. -/
def placeFreesWrong : ChangeSpec := { name := "placeFrees", fn := fun _ => fun
  | [d1, d2, d3] => { results := [.lit (.bool false)], args := [d1, d2, d3] }
  | _ => none }
def PlaceFreesWrongFalsely : Prop := placeFreesRow.holds Try.pinned (OpenSpec.ofChange placeFreesWrong)

/-- 'furlonglaw07.PlaceAll': WHATEVER THE INPUT: true; the input reads as it did. -/
def placeAllSpec : ChangeSpec := { name := "placeAll", fn := fun _ => fun
  | [d] => { results := [.lit (.bool true)], args := [d] }
  | _ => none }
def placeAllRow : OpenClaim := { program := "ytkbcjagkacijnaa", sum := "17ff6662cba2de9e6d1d0cbd1bd6bbf7b955a5d9960596d7db5794089da7f3ad", func := "furlong/furlonglaw07.PlaceAll", spec := "placeAll", unfollowed := true, recurses := true, apart := false }
def PlaceAllSaid : Prop := placeAllRow.holds Try.pinned (OpenSpec.ofChange placeAllSpec)

/-- ITS FALSE NEIGHBOUR: 'it returns false'. Refute it at one input. -/
def placeAllWrong : ChangeSpec := { name := "placeAll", fn := fun _ => fun
  | [d] => { results := [.lit (.bool false)], args := [d] }
  | _ => none }
def PlaceAllWrongFalsely : Prop := placeAllRow.holds Try.pinned (OpenSpec.ofChange placeAllWrong)

/-- 'furlonglaw01.NumDivides': WHATEVER THE INPUT: true; the input reads as it did. -/
def numDividesSpec : ChangeSpec := { name := "numDivides", fn := fun _ => fun
  | [d1, d2, d3, d4] => { results := [.lit (.bool true)], args := [d1, d2, d3, d4] }
  | _ => none }
def numDividesRow : OpenClaim := { program := "ytkbcjagkacijnaa", sum := "17ff6662cba2de9e6d1d0cbd1bd6bbf7b955a5d9960596d7db5794089da7f3ad", func := "furlong/furlonglaw01.NumDivides", spec := "numDivides", named := ["math/bits.divideError", "math/bits.overflowError"], apart := false }
def NumDividesSaid : Prop := numDividesRow.holds Try.pinned (OpenSpec.ofChange numDividesSpec)

/-- ITS FALSE NEIGHBOUR: 'it returns false'. Refute it at one input. -/
def numDividesWrong : ChangeSpec := { name := "numDivides", fn := fun _ => fun
  | [d1, d2, d3, d4] => { results := [.lit (.bool false)], args := [d1, d2, d3, d4] }
  | _ => none }
def NumDividesWrongFalsely : Prop := numDividesRow.holds Try.pinned (OpenSpec.ofChange numDividesWrong)

/-- 'furlonglaw01.NumGcds': WHATEVER THE INPUT: true; the input reads as it did. -/
def numGcdsSpec : ChangeSpec := { name := "numGcds", fn := fun _ => fun
  | [d1, d2] => { results := [.lit (.bool true)], args := [d1, d2] }
  | _ => none }
def numGcdsRow : OpenClaim := { program := "ytkbcjagkacijnaa", sum := "17ff6662cba2de9e6d1d0cbd1bd6bbf7b955a5d9960596d7db5794089da7f3ad", func := "furlong/furlonglaw01.NumGcds", spec := "numGcds", named := ["math/bits.divideError", "math/bits.overflowError"], apart := false }
def NumGcdsSaid : Prop := numGcdsRow.holds Try.pinned (OpenSpec.ofChange numGcdsSpec)

/-- ITS FALSE NEIGHBOUR: 'it returns false'. Refute it at one input. -/
def numGcdsWrong : ChangeSpec := { name := "numGcds", fn := fun _ => fun
  | [d1, d2] => { results := [.lit (.bool false)], args := [d1, d2] }
  | _ => none }
def NumGcdsWrongFalsely : Prop := numGcdsRow.holds Try.pinned (OpenSpec.ofChange numGcdsWrong)

/-- 'furlonglaw01.NumFloor': WHATEVER THE INPUT: true; the input reads as it did. -/
def numFloorSpec : ChangeSpec := { name := "numFloor", fn := fun _ => fun
  | [d1, d2, d3] => { results := [.lit (.bool true)], args := [d1, d2, d3] }
  | _ => none }
def numFloorRow : OpenClaim := { program := "ytkbcjagkacijnaa", sum := "17ff6662cba2de9e6d1d0cbd1bd6bbf7b955a5d9960596d7db5794089da7f3ad", func := "furlong/furlonglaw01.NumFloor", spec := "numFloor", named := ["math/bits.divideError", "math/bits.overflowError"], apart := false }
def NumFloorSaid : Prop := numFloorRow.holds Try.pinned (OpenSpec.ofChange numFloorSpec)

/-- ITS FALSE NEIGHBOUR: 'it returns false'. Refute it at one input. -/
def numFloorWrong : ChangeSpec := { name := "numFloor", fn := fun _ => fun
  | [d1, d2, d3] => { results := [.lit (.bool false)], args := [d1, d2, d3] }
  | _ => none }
def NumFloorWrongFalsely : Prop := numFloorRow.holds Try.pinned (OpenSpec.ofChange numFloorWrong)

/-- 'furlonglaw01.NumOrder': WHATEVER THE INPUT: true; the input reads as it did. -/
def numOrderSpec : ChangeSpec := { name := "numOrder", fn := fun _ => fun
  | [d1, d2, d3] => { results := [.lit (.bool true)], args := [d1, d2, d3] }
  | _ => none }
def numOrderRow : OpenClaim := { program := "ytkbcjagkacijnaa", sum := "17ff6662cba2de9e6d1d0cbd1bd6bbf7b955a5d9960596d7db5794089da7f3ad", func := "furlong/furlonglaw01.NumOrder", spec := "numOrder", named := ["math/bits.divideError", "math/bits.overflowError"], apart := false }
def NumOrderSaid : Prop := numOrderRow.holds Try.pinned (OpenSpec.ofChange numOrderSpec)

/-- ITS FALSE NEIGHBOUR: 'it returns false'. Refute it at one input. -/
def numOrderWrong : ChangeSpec := { name := "numOrder", fn := fun _ => fun
  | [d1, d2, d3] => { results := [.lit (.bool false)], args := [d1, d2, d3] }
  | _ => none }
def NumOrderWrongFalsely : Prop := numOrderRow.holds Try.pinned (OpenSpec.ofChange numOrderWrong)

/-- 'furlonglaw01.NumParts': WHATEVER THE INPUT: true; the input reads as it did. -/
def numPartsSpec : ChangeSpec := { name := "numParts", fn := fun _ => fun
  | [d1, d2] => { results := [.lit (.bool true)], args := [d1, d2] }
  | _ => none }
def numPartsRow : OpenClaim := { program := "ytkbcjagkacijnaa", sum := "17ff6662cba2de9e6d1d0cbd1bd6bbf7b955a5d9960596d7db5794089da7f3ad", func := "furlong/furlonglaw01.NumParts", spec := "numParts", named := ["math/bits.divideError", "math/bits.overflowError"], apart := false }
def NumPartsSaid : Prop := numPartsRow.holds Try.pinned (OpenSpec.ofChange numPartsSpec)

/-- ITS FALSE NEIGHBOUR: 'it returns false'. Refute it at one input. -/
def numPartsWrong : ChangeSpec := { name := "numParts", fn := fun _ => fun
  | [d1, d2] => { results := [.lit (.bool false)], args := [d1, d2] }
  | _ => none }
def NumPartsWrongFalsely : Prop := numPartsRow.holds Try.pinned (OpenSpec.ofChange numPartsWrong)

/-- 'furlonglaw01.NumAdds': WHATEVER THE INPUT: true; the input reads as it did. -/
def numAddsSpec : ChangeSpec := { name := "numAdds", fn := fun _ => fun
  | [d1, d2] => { results := [.lit (.bool true)], args := [d1, d2] }
  | _ => none }
def numAddsRow : OpenClaim := { program := "ytkbcjagkacijnaa", sum := "17ff6662cba2de9e6d1d0cbd1bd6bbf7b955a5d9960596d7db5794089da7f3ad", func := "furlong/furlonglaw01.NumAdds", spec := "numAdds", named := ["math/bits.divideError", "math/bits.overflowError"], apart := false }
def NumAddsSaid : Prop := numAddsRow.holds Try.pinned (OpenSpec.ofChange numAddsSpec)

/-- ITS FALSE NEIGHBOUR: 'it returns false'. Refute it at one input. -/
def numAddsWrong : ChangeSpec := { name := "numAdds", fn := fun _ => fun
  | [d1, d2] => { results := [.lit (.bool false)], args := [d1, d2] }
  | _ => none }
def NumAddsWrongFalsely : Prop := numAddsRow.holds Try.pinned (OpenSpec.ofChange numAddsWrong)

/-- 'furlonglaw01.NumRings': WHATEVER THE INPUT: true; the input reads as it did. -/
def numRingsSpec : ChangeSpec := { name := "numRings", fn := fun _ => fun
  | [d1, d2, d3] => { results := [.lit (.bool true)], args := [d1, d2, d3] }
  | _ => none }
def numRingsRow : OpenClaim := { program := "ytkbcjagkacijnaa", sum := "17ff6662cba2de9e6d1d0cbd1bd6bbf7b955a5d9960596d7db5794089da7f3ad", func := "furlong/furlonglaw01.NumRings", spec := "numRings", named := ["math/bits.divideError", "math/bits.overflowError"], apart := false }
def NumRingsSaid : Prop := numRingsRow.holds Try.pinned (OpenSpec.ofChange numRingsSpec)

/-- ITS FALSE NEIGHBOUR: 'it returns false'. Refute it at one input. -/
def numRingsWrong : ChangeSpec := { name := "numRings", fn := fun _ => fun
  | [d1, d2, d3] => { results := [.lit (.bool false)], args := [d1, d2, d3] }
  | _ => none }
def NumRingsWrongFalsely : Prop := numRingsRow.holds Try.pinned (OpenSpec.ofChange numRingsWrong)

/-- 'furlonglaw04.ClockLens': WHATEVER THE INPUT: true; the input reads as it did. -/
def clockLensSpec : ChangeSpec := { name := "clockLens", fn := fun _ => fun
  | [d1, d2, d3] => { results := [.lit (.bool true)], args := [d1, d2, d3] }
  | _ => none }
def clockLensRow : OpenClaim := { program := "ytkbcjagkacijnaa", sum := "17ff6662cba2de9e6d1d0cbd1bd6bbf7b955a5d9960596d7db5794089da7f3ad", func := "furlong/furlonglaw04.ClockLens", spec := "clockLens", named := ["math/bits.divideError", "math/bits.overflowError"], apart := false }
def ClockLensSaid : Prop := clockLensRow.holds Try.pinned (OpenSpec.ofChange clockLensSpec)

/-- ITS FALSE NEIGHBOUR: 'it returns false'. Refute it at one input. -/
def clockLensWrong : ChangeSpec := { name := "clockLens", fn := fun _ => fun
  | [d1, d2, d3] => { results := [.lit (.bool false)], args := [d1, d2, d3] }
  | _ => none }
def ClockLensWrongFalsely : Prop := clockLensRow.holds Try.pinned (OpenSpec.ofChange clockLensWrong)

/-- 'furlonglaw04.ClockWithin': WHATEVER THE INPUT: true; the input reads as it did. -/
def clockWithinSpec : ChangeSpec := { name := "clockWithin", fn := fun _ => fun
  | [d1, d2, d3] => { results := [.lit (.bool true)], args := [d1, d2, d3] }
  | _ => none }
def clockWithinRow : OpenClaim := { program := "ytkbcjagkacijnaa", sum := "17ff6662cba2de9e6d1d0cbd1bd6bbf7b955a5d9960596d7db5794089da7f3ad", func := "furlong/furlonglaw04.ClockWithin", spec := "clockWithin", named := ["math/bits.divideError", "math/bits.overflowError"], apart := false }
def ClockWithinSaid : Prop := clockWithinRow.holds Try.pinned (OpenSpec.ofChange clockWithinSpec)

/-- ITS FALSE NEIGHBOUR: 'it returns false'. Refute it at one input. -/
def clockWithinWrong : ChangeSpec := { name := "clockWithin", fn := fun _ => fun
  | [d1, d2, d3] => { results := [.lit (.bool false)], args := [d1, d2, d3] }
  | _ => none }
def ClockWithinWrongFalsely : Prop := clockWithinRow.holds Try.pinned (OpenSpec.ofChange clockWithinWrong)

/-- 'furlonglaw04.ClockGreatest': WHATEVER THE INPUT: true; the input reads as it did. -/
def clockGreatestSpec : ChangeSpec := { name := "clockGreatest", fn := fun _ => fun
  | [d1, d2] => { results := [.lit (.bool true)], args := [d1, d2] }
  | _ => none }
def clockGreatestRow : OpenClaim := { program := "ytkbcjagkacijnaa", sum := "17ff6662cba2de9e6d1d0cbd1bd6bbf7b955a5d9960596d7db5794089da7f3ad", func := "furlong/furlonglaw04.ClockGreatest", spec := "clockGreatest", named := ["math/bits.divideError", "math/bits.overflowError"], apart := false }
def ClockGreatestSaid : Prop := clockGreatestRow.holds Try.pinned (OpenSpec.ofChange clockGreatestSpec)

/-- ITS FALSE NEIGHBOUR: 'it returns false'. Refute it at one input. -/
def clockGreatestWrong : ChangeSpec := { name := "clockGreatest", fn := fun _ => fun
  | [d1, d2] => { results := [.lit (.bool false)], args := [d1, d2] }
  | _ => none }
def ClockGreatestWrongFalsely : Prop := clockGreatestRow.holds Try.pinned (OpenSpec.ofChange clockGreatestWrong)

/-- 'furlonglaw04.ClockOne': WHATEVER THE INPUT: true; the input reads as it did. -/
def clockOneSpec : ChangeSpec := { name := "clockOne", fn := fun _ => fun
  | [d1, d2, d3] => { results := [.lit (.bool true)], args := [d1, d2, d3] }
  | _ => none }
def clockOneRow : OpenClaim := { program := "ytkbcjagkacijnaa", sum := "17ff6662cba2de9e6d1d0cbd1bd6bbf7b955a5d9960596d7db5794089da7f3ad", func := "furlong/furlonglaw04.ClockOne", spec := "clockOne", named := ["math/bits.divideError", "math/bits.overflowError"], apart := false }
def ClockOneSaid : Prop := clockOneRow.holds Try.pinned (OpenSpec.ofChange clockOneSpec)

/-- ITS FALSE NEIGHBOUR: 'it returns false'. Refute it at one input. -/
def clockOneWrong : ChangeSpec := { name := "clockOne", fn := fun _ => fun
  | [d1, d2, d3] => { results := [.lit (.bool false)], args := [d1, d2, d3] }
  | _ => none }
def ClockOneWrongFalsely : Prop := clockOneRow.holds Try.pinned (OpenSpec.ofChange clockOneWrong)

/-- 'furlonglaw04.ClockSteady': WHATEVER THE INPUT: true; the input reads as it did. -/
def clockSteadySpec : ChangeSpec := { name := "clockSteady", fn := fun _ => fun
  | [d1, d2, d3] => { results := [.lit (.bool true)], args := [d1, d2, d3] }
  | _ => none }
def clockSteadyRow : OpenClaim := { program := "ytkbcjagkacijnaa", sum := "17ff6662cba2de9e6d1d0cbd1bd6bbf7b955a5d9960596d7db5794089da7f3ad", func := "furlong/furlonglaw04.ClockSteady", spec := "clockSteady", named := ["math/bits.divideError", "math/bits.overflowError"], apart := false }
def ClockSteadySaid : Prop := clockSteadyRow.holds Try.pinned (OpenSpec.ofChange clockSteadySpec)

/-- ITS FALSE NEIGHBOUR: 'it returns false'. Refute it at one input. -/
def clockSteadyWrong : ChangeSpec := { name := "clockSteady", fn := fun _ => fun
  | [d1, d2, d3] => { results := [.lit (.bool false)], args := [d1, d2, d3] }
  | _ => none }
def ClockSteadyWrongFalsely : Prop := clockSteadyRow.holds Try.pinned (OpenSpec.ofChange clockSteadyWrong)

/-- 'furlonglaw04.ClockHolds': WHATEVER THE INPUT: true; the input reads as it did. -/
def clockHoldsSpec : ChangeSpec := { name := "clockHolds", fn := fun _ => fun
  | [d1, d2, d3, d4, d5] => { results := [.lit (.bool true)], args := [d1, d2, d3, d4, d5] }
  | _ => none }
def clockHoldsRow : OpenClaim := { program := "ytkbcjagkacijnaa", sum := "17ff6662cba2de9e6d1d0cbd1bd6bbf7b955a5d9960596d7db5794089da7f3ad", func := "furlong/furlonglaw04.ClockHolds", spec := "clockHolds", named := ["math/bits.divideError", "math/bits.overflowError"], apart := false }
def ClockHoldsSaid : Prop := clockHoldsRow.holds Try.pinned (OpenSpec.ofChange clockHoldsSpec)

/-- ITS FALSE NEIGHBOUR: 'it returns false'. Refute it at one input. -/
def clockHoldsWrong : ChangeSpec := { name := "clockHolds", fn := fun _ => fun
  | [d1, d2, d3, d4, d5] => { results := [.lit (.bool false)], args := [d1, d2, d3, d4, d5] }
  | _ => none }
def ClockHoldsWrongFalsely : Prop := clockHoldsRow.holds Try.pinned (OpenSpec.ofChange clockHoldsWrong)

/-- 'furlonglaw01.NumSums': WHATEVER THE INPUT: true; the input reads as it did. -/
def numSumsSpec : ChangeSpec := { name := "numSums", fn := fun _ => fun
  | [d] => { results := [.lit (.bool true)], args := [d] }
  | _ => none }
def numSumsRow : OpenClaim := { program := "ytkbcjagkacijnaa", sum := "17ff6662cba2de9e6d1d0cbd1bd6bbf7b955a5d9960596d7db5794089da7f3ad", func := "furlong/furlonglaw01.NumSums", spec := "numSums", inPlace := ["math/bits.Add64", "math/bits.Sub64"], named := ["math/bits.divideError", "math/bits.overflowError"], apart := false }
def NumSumsSaid : Prop := numSumsRow.holds Try.pinned (OpenSpec.ofChange numSumsSpec)

/-- ITS FALSE NEIGHBOUR: 'it returns false'. Refute it at one input. -/
def numSumsWrong : ChangeSpec := { name := "numSums", fn := fun _ => fun
  | [d] => { results := [.lit (.bool false)], args := [d] }
  | _ => none }
def NumSumsWrongFalsely : Prop := numSumsRow.holds Try.pinned (OpenSpec.ofChange numSumsWrong)

/-- 'furlonglaw01.NumTogether': WHATEVER THE INPUT: true; the input reads as it did. -/
def numTogetherSpec : ChangeSpec := { name := "numTogether", fn := fun _ => fun
  | [d1, d2] => { results := [.lit (.bool true)], args := [d1, d2] }
  | _ => none }
def numTogetherRow : OpenClaim := { program := "ytkbcjagkacijnaa", sum := "17ff6662cba2de9e6d1d0cbd1bd6bbf7b955a5d9960596d7db5794089da7f3ad", func := "furlong/furlonglaw01.NumTogether", spec := "numTogether", inPlace := ["math/bits.Add64", "math/bits.Sub64"], named := ["math/bits.divideError", "math/bits.overflowError"], apart := false }
def NumTogetherSaid : Prop := numTogetherRow.holds Try.pinned (OpenSpec.ofChange numTogetherSpec)

/-- ITS FALSE NEIGHBOUR: 'it returns false'. Refute it at one input. -/
def numTogetherWrong : ChangeSpec := { name := "numTogether", fn := fun _ => fun
  | [d1, d2] => { results := [.lit (.bool false)], args := [d1, d2] }
  | _ => none }
def NumTogetherWrongFalsely : Prop := numTogetherRow.holds Try.pinned (OpenSpec.ofChange numTogetherWrong)

/- THE SECOND FORM. 'bulk': how many values and letters a reading holds, each counted each time it is reached (what is shared counts as often as it is met; a slice's spare places count too). A statement '..UptoSaid' is the law's where the arguments, and the package variables that the reading takes, are together of bulk at most 1048576: NARROWER than '..Said'. Prove '..Said' where nothing that the law and all that it calls make is longer than what came in: it says more and counts as full. Else prove '..UptoSaid'. A law counts once. -/
mutual
def uptoBulk {H : Type} : DataW H → Nat
  | .lit (.string bytes) => bytes.length + 1
  | .lit _ => 1
  | .nil => 1
  | .ptr d => uptoBulk d + 1
  | .slice elems spare => uptoBulkAll elems + uptoBulkAll spare + 1
  | .agg parts => uptoBulkAll parts + 1
  | .iface _ d => uptoBulk d + 1
  | .map entries => uptoBulkEntries entries + 1
  | .held _ => 1
def uptoBulkAll {H : Type} : List (DataW H) → Nat
  | [] => 0
  | d :: r => uptoBulk d + uptoBulkAll r
def uptoBulkEntries {H : Type} : List (Lit × DataW H) → Nat
  | [] => 0
  | x :: r => uptoBulkEntry x + uptoBulkEntries r
def uptoBulkEntry {H : Type} : Lit × DataW H → Nat
  | (.string bytes, d) => bytes.length + uptoBulk d + 1
  | (_, d) => uptoBulk d + 1
 end
def uptoSmall : (H : Type) → List (DataW H) → Bool := fun _ ds => decide (uptoBulkAll ds ≤ 1048576)
def OpenSpec.upto (s : _root_.Go.ChangeSpec) : _root_.Go.OpenSpec := { _root_.Go.OpenSpec.ofChange s with cond := some uptoSmall }

/-- 'furlonglaw07.PlaceFinds', WHERE WHAT IT READS IS OF BULK AT MOST 1048576: true; the input reads as it did. -/
def placeFindsUptoRow : OpenClaim := { program := "ytkbcjagkacijnaa", sum := "17ff6662cba2de9e6d1d0cbd1bd6bbf7b955a5d9960596d7db5794089da7f3ad", func := "furlong/furlonglaw07.PlaceFinds", spec := "placeFinds", unfollowed := true, recurses := true, apart := false, narrowed := true }
def PlaceFindsUptoSaid : Prop := placeFindsUptoRow.holds Try.pinned (OpenSpec.upto placeFindsSpec)

/-- 'furlonglaw02.VecShares', WHERE WHAT IT READS IS OF BULK AT MOST 1048576: true; the input reads as it did. -/
def vecSharesUptoRow : OpenClaim := { program := "ytkbcjagkacijnaa", sum := "17ff6662cba2de9e6d1d0cbd1bd6bbf7b955a5d9960596d7db5794089da7f3ad", func := "furlong/furlonglaw02.VecShares", spec := "vecShares", unfollowed := true, recurses := true, apart := false, narrowed := true }
def VecSharesUptoSaid : Prop := vecSharesUptoRow.holds Try.pinned (OpenSpec.upto vecSharesSpec)

/-- 'furlonglaw02.VecAdds', WHERE WHAT IT READS IS OF BULK AT MOST 1048576: true; the input reads as it did. -/
def vecAddsUptoRow : OpenClaim := { program := "ytkbcjagkacijnaa", sum := "17ff6662cba2de9e6d1d0cbd1bd6bbf7b955a5d9960596d7db5794089da7f3ad", func := "furlong/furlonglaw02.VecAdds", spec := "vecAdds", unfollowed := true, recurses := true, apart := false, narrowed := true }
def VecAddsUptoSaid : Prop := vecAddsUptoRow.holds Try.pinned (OpenSpec.upto vecAddsSpec)

/-- 'furlonglaw02.VecBack', WHERE WHAT IT READS IS OF BULK AT MOST 1048576: true; the input reads as it did. -/
def vecBackUptoRow : OpenClaim := { program := "ytkbcjagkacijnaa", sum := "17ff6662cba2de9e6d1d0cbd1bd6bbf7b955a5d9960596d7db5794089da7f3ad", func := "furlong/furlonglaw02.VecBack", spec := "vecBack", unfollowed := true, recurses := true, apart := false, narrowed := true }
def VecBackUptoSaid : Prop := vecBackUptoRow.holds Try.pinned (OpenSpec.upto vecBackSpec)

/-- 'furlonglaw02.VecMost', WHERE WHAT IT READS IS OF BULK AT MOST 1048576: true; the input reads as it did. -/
def vecMostUptoRow : OpenClaim := { program := "ytkbcjagkacijnaa", sum := "17ff6662cba2de9e6d1d0cbd1bd6bbf7b955a5d9960596d7db5794089da7f3ad", func := "furlong/furlonglaw02.VecMost", spec := "vecMost", unfollowed := true, recurses := true, apart := false, narrowed := true }
def VecMostUptoSaid : Prop := vecMostUptoRow.holds Try.pinned (OpenSpec.upto vecMostSpec)

/-- 'furlonglaw07.PlaceFits', WHERE WHAT IT READS IS OF BULK AT MOST 1048576: true; the input reads as it did. -/
def placeFitsUptoRow : OpenClaim := { program := "ytkbcjagkacijnaa", sum := "17ff6662cba2de9e6d1d0cbd1bd6bbf7b955a5d9960596d7db5794089da7f3ad", func := "furlong/furlonglaw07.PlaceFits", spec := "placeFits", unfollowed := true, recurses := true, apart := false, narrowed := true }
def PlaceFitsUptoSaid : Prop := placeFitsUptoRow.holds Try.pinned (OpenSpec.upto placeFitsSpec)

/-- 'furlonglaw07.PlaceTakes', WHERE WHAT IT READS IS OF BULK AT MOST 1048576: true; the input reads as it did. -/
def placeTakesUptoRow : OpenClaim := { program := "ytkbcjagkacijnaa", sum := "17ff6662cba2de9e6d1d0cbd1bd6bbf7b955a5d9960596d7db5794089da7f3ad", func := "furlong/furlonglaw07.PlaceTakes", spec := "placeTakes", unfollowed := true, recurses := true, apart := false, narrowed := true }
def PlaceTakesUptoSaid : Prop := placeTakesUptoRow.holds Try.pinned (OpenSpec.upto placeTakesSpec)

/-- 'furlonglaw07.PlaceApart', WHERE WHAT IT READS IS OF BULK AT MOST 1048576: true; the input reads as it did. -/
def placeApartUptoRow : OpenClaim := { program := "ytkbcjagkacijnaa", sum := "17ff6662cba2de9e6d1d0cbd1bd6bbf7b955a5d9960596d7db5794089da7f3ad", func := "furlong/furlonglaw07.PlaceApart", spec := "placeApart", unfollowed := true, recurses := true, apart := false, narrowed := true }
def PlaceApartUptoSaid : Prop := placeApartUptoRow.holds Try.pinned (OpenSpec.upto placeApartSpec)

/-- 'furlonglaw02.VecOrders', WHERE WHAT IT READS IS OF BULK AT MOST 1048576: true; the input reads as it did. -/
def vecOrdersUptoRow : OpenClaim := { program := "ytkbcjagkacijnaa", sum := "17ff6662cba2de9e6d1d0cbd1bd6bbf7b955a5d9960596d7db5794089da7f3ad", func := "furlong/furlonglaw02.VecOrders", spec := "vecOrders", unfollowed := true, recurses := true, apart := false, narrowed := true }
def VecOrdersUptoSaid : Prop := vecOrdersUptoRow.holds Try.pinned (OpenSpec.upto vecOrdersSpec)

/-- 'furlonglaw02.VecTurns', WHERE WHAT IT READS IS OF BULK AT MOST 1048576: true; the input reads as it did. -/
def vecTurnsUptoRow : OpenClaim := { program := "ytkbcjagkacijnaa", sum := "17ff6662cba2de9e6d1d0cbd1bd6bbf7b955a5d9960596d7db5794089da7f3ad", func := "furlong/furlonglaw02.VecTurns", spec := "vecTurns", unfollowed := true, recurses := true, apart := false, narrowed := true }
def VecTurnsUptoSaid : Prop := vecTurnsUptoRow.holds Try.pinned (OpenSpec.upto vecTurnsSpec)

/-- 'furlonglaw02.VecAlike', WHERE WHAT IT READS IS OF BULK AT MOST 1048576: true; the input reads as it did. -/
def vecAlikeUptoRow : OpenClaim := { program := "ytkbcjagkacijnaa", sum := "17ff6662cba2de9e6d1d0cbd1bd6bbf7b955a5d9960596d7db5794089da7f3ad", func := "furlong/furlonglaw02.VecAlike", spec := "vecAlike", unfollowed := true, recurses := true, apart := false, narrowed := true }
def VecAlikeUptoSaid : Prop := vecAlikeUptoRow.holds Try.pinned (OpenSpec.upto vecAlikeSpec)

/-- 'furlonglaw07.PlaceFrees', WHERE WHAT IT READS IS OF BULK AT MOST 1048576: true; the input reads as it did. -/
def placeFreesUptoRow : OpenClaim := { program := "ytkbcjagkacijnaa", sum := "17ff6662cba2de9e6d1d0cbd1bd6bbf7b955a5d9960596d7db5794089da7f3ad", func := "furlong/furlonglaw07.PlaceFrees", spec := "placeFrees", unfollowed := true, recurses := true, apart := false, narrowed := true }
def PlaceFreesUptoSaid : Prop := placeFreesUptoRow.holds Try.pinned (OpenSpec.upto placeFreesSpec)

/-- 'furlonglaw07.PlaceAll', WHERE WHAT IT READS IS OF BULK AT MOST 1048576: true; the input reads as it did. -/
def placeAllUptoRow : OpenClaim := { program := "ytkbcjagkacijnaa", sum := "17ff6662cba2de9e6d1d0cbd1bd6bbf7b955a5d9960596d7db5794089da7f3ad", func := "furlong/furlonglaw07.PlaceAll", spec := "placeAll", unfollowed := true, recurses := true, apart := false, narrowed := true }
def PlaceAllUptoSaid : Prop := placeAllUptoRow.holds Try.pinned (OpenSpec.upto placeAllSpec)

/-- 'furlonglaw01.NumDivides', WHERE WHAT IT READS IS OF BULK AT MOST 1048576: true; the input reads as it did. -/
def numDividesUptoRow : OpenClaim := { program := "ytkbcjagkacijnaa", sum := "17ff6662cba2de9e6d1d0cbd1bd6bbf7b955a5d9960596d7db5794089da7f3ad", func := "furlong/furlonglaw01.NumDivides", spec := "numDivides", named := ["math/bits.divideError", "math/bits.overflowError"], apart := false, narrowed := true }
def NumDividesUptoSaid : Prop := numDividesUptoRow.holds Try.pinned (OpenSpec.upto numDividesSpec)

/-- 'furlonglaw01.NumGcds', WHERE WHAT IT READS IS OF BULK AT MOST 1048576: true; the input reads as it did. -/
def numGcdsUptoRow : OpenClaim := { program := "ytkbcjagkacijnaa", sum := "17ff6662cba2de9e6d1d0cbd1bd6bbf7b955a5d9960596d7db5794089da7f3ad", func := "furlong/furlonglaw01.NumGcds", spec := "numGcds", named := ["math/bits.divideError", "math/bits.overflowError"], apart := false, narrowed := true }
def NumGcdsUptoSaid : Prop := numGcdsUptoRow.holds Try.pinned (OpenSpec.upto numGcdsSpec)

/-- 'furlonglaw01.NumFloor', WHERE WHAT IT READS IS OF BULK AT MOST 1048576: true; the input reads as it did. -/
def numFloorUptoRow : OpenClaim := { program := "ytkbcjagkacijnaa", sum := "17ff6662cba2de9e6d1d0cbd1bd6bbf7b955a5d9960596d7db5794089da7f3ad", func := "furlong/furlonglaw01.NumFloor", spec := "numFloor", named := ["math/bits.divideError", "math/bits.overflowError"], apart := false, narrowed := true }
def NumFloorUptoSaid : Prop := numFloorUptoRow.holds Try.pinned (OpenSpec.upto numFloorSpec)

/-- 'furlonglaw01.NumOrder', WHERE WHAT IT READS IS OF BULK AT MOST 1048576: true; the input reads as it did. -/
def numOrderUptoRow : OpenClaim := { program := "ytkbcjagkacijnaa", sum := "17ff6662cba2de9e6d1d0cbd1bd6bbf7b955a5d9960596d7db5794089da7f3ad", func := "furlong/furlonglaw01.NumOrder", spec := "numOrder", named := ["math/bits.divideError", "math/bits.overflowError"], apart := false, narrowed := true }
def NumOrderUptoSaid : Prop := numOrderUptoRow.holds Try.pinned (OpenSpec.upto numOrderSpec)

/-- 'furlonglaw01.NumParts', WHERE WHAT IT READS IS OF BULK AT MOST 1048576: true; the input reads as it did. -/
def numPartsUptoRow : OpenClaim := { program := "ytkbcjagkacijnaa", sum := "17ff6662cba2de9e6d1d0cbd1bd6bbf7b955a5d9960596d7db5794089da7f3ad", func := "furlong/furlonglaw01.NumParts", spec := "numParts", named := ["math/bits.divideError", "math/bits.overflowError"], apart := false, narrowed := true }
def NumPartsUptoSaid : Prop := numPartsUptoRow.holds Try.pinned (OpenSpec.upto numPartsSpec)

/-- 'furlonglaw01.NumAdds', WHERE WHAT IT READS IS OF BULK AT MOST 1048576: true; the input reads as it did. -/
def numAddsUptoRow : OpenClaim := { program := "ytkbcjagkacijnaa", sum := "17ff6662cba2de9e6d1d0cbd1bd6bbf7b955a5d9960596d7db5794089da7f3ad", func := "furlong/furlonglaw01.NumAdds", spec := "numAdds", named := ["math/bits.divideError", "math/bits.overflowError"], apart := false, narrowed := true }
def NumAddsUptoSaid : Prop := numAddsUptoRow.holds Try.pinned (OpenSpec.upto numAddsSpec)

/-- 'furlonglaw01.NumRings', WHERE WHAT IT READS IS OF BULK AT MOST 1048576: true; the input reads as it did. -/
def numRingsUptoRow : OpenClaim := { program := "ytkbcjagkacijnaa", sum := "17ff6662cba2de9e6d1d0cbd1bd6bbf7b955a5d9960596d7db5794089da7f3ad", func := "furlong/furlonglaw01.NumRings", spec := "numRings", named := ["math/bits.divideError", "math/bits.overflowError"], apart := false, narrowed := true }
def NumRingsUptoSaid : Prop := numRingsUptoRow.holds Try.pinned (OpenSpec.upto numRingsSpec)

/-- 'furlonglaw04.ClockLens', WHERE WHAT IT READS IS OF BULK AT MOST 1048576: true; the input reads as it did. -/
def clockLensUptoRow : OpenClaim := { program := "ytkbcjagkacijnaa", sum := "17ff6662cba2de9e6d1d0cbd1bd6bbf7b955a5d9960596d7db5794089da7f3ad", func := "furlong/furlonglaw04.ClockLens", spec := "clockLens", named := ["math/bits.divideError", "math/bits.overflowError"], apart := false, narrowed := true }
def ClockLensUptoSaid : Prop := clockLensUptoRow.holds Try.pinned (OpenSpec.upto clockLensSpec)

/-- 'furlonglaw04.ClockWithin', WHERE WHAT IT READS IS OF BULK AT MOST 1048576: true; the input reads as it did. -/
def clockWithinUptoRow : OpenClaim := { program := "ytkbcjagkacijnaa", sum := "17ff6662cba2de9e6d1d0cbd1bd6bbf7b955a5d9960596d7db5794089da7f3ad", func := "furlong/furlonglaw04.ClockWithin", spec := "clockWithin", named := ["math/bits.divideError", "math/bits.overflowError"], apart := false, narrowed := true }
def ClockWithinUptoSaid : Prop := clockWithinUptoRow.holds Try.pinned (OpenSpec.upto clockWithinSpec)

/-- 'furlonglaw04.ClockGreatest', WHERE WHAT IT READS IS OF BULK AT MOST 1048576: true; the input reads as it did. -/
def clockGreatestUptoRow : OpenClaim := { program := "ytkbcjagkacijnaa", sum := "17ff6662cba2de9e6d1d0cbd1bd6bbf7b955a5d9960596d7db5794089da7f3ad", func := "furlong/furlonglaw04.ClockGreatest", spec := "clockGreatest", named := ["math/bits.divideError", "math/bits.overflowError"], apart := false, narrowed := true }
def ClockGreatestUptoSaid : Prop := clockGreatestUptoRow.holds Try.pinned (OpenSpec.upto clockGreatestSpec)

/-- 'furlonglaw04.ClockOne', WHERE WHAT IT READS IS OF BULK AT MOST 1048576: true; the input reads as it did. -/
def clockOneUptoRow : OpenClaim := { program := "ytkbcjagkacijnaa", sum := "17ff6662cba2de9e6d1d0cbd1bd6bbf7b955a5d9960596d7db5794089da7f3ad", func := "furlong/furlonglaw04.ClockOne", spec := "clockOne", named := ["math/bits.divideError", "math/bits.overflowError"], apart := false, narrowed := true }
def ClockOneUptoSaid : Prop := clockOneUptoRow.holds Try.pinned (OpenSpec.upto clockOneSpec)

/-- 'furlonglaw04.ClockSteady', WHERE WHAT IT READS IS OF BULK AT MOST 1048576: true; the input reads as it did. -/
def clockSteadyUptoRow : OpenClaim := { program := "ytkbcjagkacijnaa", sum := "17ff6662cba2de9e6d1d0cbd1bd6bbf7b955a5d9960596d7db5794089da7f3ad", func := "furlong/furlonglaw04.ClockSteady", spec := "clockSteady", named := ["math/bits.divideError", "math/bits.overflowError"], apart := false, narrowed := true }
def ClockSteadyUptoSaid : Prop := clockSteadyUptoRow.holds Try.pinned (OpenSpec.upto clockSteadySpec)

/-- 'furlonglaw04.ClockHolds', WHERE WHAT IT READS IS OF BULK AT MOST 1048576: true; the input reads as it did. -/
def clockHoldsUptoRow : OpenClaim := { program := "ytkbcjagkacijnaa", sum := "17ff6662cba2de9e6d1d0cbd1bd6bbf7b955a5d9960596d7db5794089da7f3ad", func := "furlong/furlonglaw04.ClockHolds", spec := "clockHolds", named := ["math/bits.divideError", "math/bits.overflowError"], apart := false, narrowed := true }
def ClockHoldsUptoSaid : Prop := clockHoldsUptoRow.holds Try.pinned (OpenSpec.upto clockHoldsSpec)

/-- 'furlonglaw01.NumSums', WHERE WHAT IT READS IS OF BULK AT MOST 1048576: true; the input reads as it did. -/
def numSumsUptoRow : OpenClaim := { program := "ytkbcjagkacijnaa", sum := "17ff6662cba2de9e6d1d0cbd1bd6bbf7b955a5d9960596d7db5794089da7f3ad", func := "furlong/furlonglaw01.NumSums", spec := "numSums", inPlace := ["math/bits.Add64", "math/bits.Sub64"], named := ["math/bits.divideError", "math/bits.overflowError"], apart := false, narrowed := true }
def NumSumsUptoSaid : Prop := numSumsUptoRow.holds Try.pinned (OpenSpec.upto numSumsSpec)

/-- 'furlonglaw01.NumTogether', WHERE WHAT IT READS IS OF BULK AT MOST 1048576: true; the input reads as it did. -/
def numTogetherUptoRow : OpenClaim := { program := "ytkbcjagkacijnaa", sum := "17ff6662cba2de9e6d1d0cbd1bd6bbf7b955a5d9960596d7db5794089da7f3ad", func := "furlong/furlonglaw01.NumTogether", spec := "numTogether", inPlace := ["math/bits.Add64", "math/bits.Sub64"], named := ["math/bits.divideError", "math/bits.overflowError"], apart := false, narrowed := true }
def NumTogetherUptoSaid : Prop := numTogetherUptoRow.holds Try.pinned (OpenSpec.upto numTogetherSpec)

end Rows
end Go.Proofs.Ytkbcjagkacijnaa
